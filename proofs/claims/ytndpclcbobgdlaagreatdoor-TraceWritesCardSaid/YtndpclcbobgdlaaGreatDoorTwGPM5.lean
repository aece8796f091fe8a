/-
  Part 5 of a proof: SbC SbQ SbT TrA TrC CkTc TrE CkCall.
  Conditions: each theorem states its own.
-/
import Derived.Laws.IdiomStrings
import Derived.Test.YtndpclcbobgdlaaGreatDoorTwGPM4
set_option maxRecDepth 100000
set_option linter.unusedVariables false
set_option linter.unusedSimpArgs false
section
namespace Go.Proofs.YtndpclcbobgdlaaGreatDoor
open Go Go.Ck
set_option maxHeartbeats 2000000
section
variable {h : View} {L : List Res}
end
def KF (l m : List Sb) : Prop := ∀ d : Dt, l.filter (fun x => decide (x.d = d)) = m.filter (fun x => decide (x.d = d))
theorem KF.refl (l : List Sb) : KF l l := fun _ => rfl
theorem KF.symm {l m : List Sb} (h : KF l m) : KF m l := fun d => (h d).symm
theorem KF.trans {l m n : List Sb} (h : KF l m) (k : KF m n) : KF l n := fun d => (h d).trans (k d)
theorem KF.move {x : Sb} : ∀ {l : List Sb}, (∀ y ∈ l, y.d ≠ x.d) → KF (l ++ [x]) (x :: l)
  | [], _ => KF.refl _
  | y :: l, h => fun d => by
    have ih := KF.move (l := l) (fun z hz => h z (List.mem_cons_of_mem _ hz)) d
    have hy := h y (List.mem_cons_self ..)
    rw [List.cons_append, List.filter_cons, ih]
    by_cases e1 : x.d = d
    · have e2 : y.d ≠ d := fun e => hy (e.trans e1.symm)
      simp [e1, e2]
    · simp [List.filter_cons, e1]
theorem KF.perm {l m : List Sb} (h : KF l m) : l.Perm m := by
  classical
  refine List.perm_iff_count.2 fun x => ?_
  have h1 := h x.d
  have e1 := List.count_filter (p := fun y : Sb => decide (y.d = x.d)) (a := x) (l := l) (by simp)
  have e2 := List.count_filter (p := fun y : Sb => decide (y.d = x.d)) (a := x) (l := m) (by simp)
  rw [← e1, ← e2, h1]
theorem KF.len {l m : List Sb} (h : KF l m) : l.length = m.length := h.perm.length_eq
theorem KF.swap {a b : List Sb} (h : ∀ x ∈ a, ∀ y ∈ b, y.d ≠ x.d) : KF (a ++ b) (b ++ a) := fun d => by
  rw [List.filter_append, List.filter_append]
  by_cases h1 : ∃ x ∈ a, x.d = d
  · obtain ⟨x, hx, rfl⟩ := h1
    have : b.filter (fun y => decide (y.d = x.d)) = [] := List.filter_eq_nil_iff.2 fun y hy => by simpa using h x hx y hy
    rw [this, List.append_nil, List.nil_append]
  · have : a.filter (fun y => decide (y.d = d)) = [] := List.filter_eq_nil_iff.2 fun y hy => by simpa using fun e => h1 ⟨y, hy, e⟩
    rw [this, List.append_nil, List.nil_append]
end Go.Proofs.YtndpclcbobgdlaaGreatDoor
end

section
namespace Go.Proofs.YtndpclcbobgdlaaGreatDoor
open Go Go.Ck
set_option maxHeartbeats 4000000
section
variable {P : Program} {n : Nat} {K : Bs} {F : List (Nat × Value)} {h : View} {L : List Res} {Q : Exit → Act → World → Prop}
variable {dst : Option Nat} {ty : Nat} {pos : String} {af : Array Edge} {gd : Option (Nat × Bool)}
end
structure Rv (h : View) (s : Sb) : Prop where
  ds : Ds h s.mv s.l
  bs : s.bv = .string (bstr s.b)
  by8 : Bytes s.b
theorem Rv.mono {h h' : View} {s : Sb} (v : Rv h s) (hl : Le h h') : Rv h' s := ⟨v.ds.mono hl, v.bs, v.by8⟩
theorem Rv.one {h : View} {s : Sb} (v : Rv h s) : s.mv.oneCell' = true ∧ s.bv.oneCell' = true := by
  obtain ⟨_, _, _, e1, _⟩ := v.ds
  rw [e1, v.bs]
  exact ⟨rfl, rfl⟩
def Rs (h : View) (v : Value) (l : List Sb) : Prop := Sc h 20 v l.length (l.flatMap sbc) ∧ ∀ s ∈ l, Rv h s
theorem Rs.mono {h h' : View} {v : Value} {l : List Sb} (s : Rs h v l) (hl : Le h h') : Rs h' v l := ⟨s.1.mono hl, fun x hx => (s.2 x hx).mono hl⟩
end Go.Proofs.YtndpclcbobgdlaaGreatDoor
end

section
namespace Go.Proofs.YtndpclcbobgdlaaGreatDoor
open Go Go.Ck
set_option maxHeartbeats 4000000
def s0 (d : Dt) : Sb := ⟨d, zeroU, rfl, [], .slice none 0 0, [], .slice none 0 0⟩
end Go.Proofs.YtndpclcbobgdlaaGreatDoor
end

section
namespace Go.Proofs.YtndpclcbobgdlaaGreatDoor
open Go Go.Ck
set_option maxHeartbeats 2000000
structure Ta where
  kind : Int
  client : Int
  handle : Int
  box : Int
  k : Int
  name : List Int
  value : List Int
  stay : List Bool
  raw : List Int
deriving DecidableEq
def flagI (b : Bool) : Int := if b = true then 1 else 0
def encF (l : List Bool) : List Int := l.flatMap fun b => num1 (flagI b)
def encT (a : Ta) : List Int := num1 a.kind ++ (num1 a.client ++ (num8 a.handle ++ (num8 a.box ++ (num8 a.k ++ (num4 a.name.length ++ a.name ++ (num4 a.value.length ++ a.value ++ (num8 a.stay.length ++ (encF a.stay ++ (num4 a.raw.length ++ a.raw)))))))))
def encL (l : List Ta) : List Int := num8 l.length ++ l.flatMap encT
def trp1 (s : RS) : Int × RS := numC s 1 255
def trp2 (s : RS) : Int × RS := numC (trp1 s).2 1 255
def trp3 (s : RS) : Int × RS := numC (trp2 s).2 8 4611686018427387904
def trp4 (s : RS) : Int × RS := numC (trp3 s).2 8 4611686018427387904
def trp5 (s : RS) : Int × RS := numC (trp4 s).2 8 4611686018427387904
def trp6 (s : RS) : List Int × RS := byC (trp5 s).2 255
def trp7 (s : RS) : List Int × RS := byC (trp6 s).2 65536
def trp8 (s : RS) : Int × RS := numC (trp7 s).2 8 1000
def stC : Nat → RS → List Bool × RS
  | 0, s => ([], s)
  | k + 1, s => ((stC k s).1 ++ [decide ((numC (stC k s).2 1 1).1 = 1)], (numC (stC k s).2 1 1).2)
def trp9 (s : RS) : List Bool × RS := stC (trp8 s).1.toNat (trp8 s).2
def trp10 (s : RS) : List Int × RS := byC (trp9 s).2 65536
def taC (s : RS) : Ta := ⟨(trp1 s).1, (trp2 s).1, (trp3 s).1, (trp4 s).1, (trp5 s).1, (trp6 s).1, (trp7 s).1, (trp9 s).1, (trp10 s).1⟩
def tsC : Nat → RS → List Ta × RS
  | 0, s => ([], s)
  | k + 1, s => ((tsC k s).1 ++ [taC (tsC k s).2], (trp10 (tsC k s).2).2)
def tmS (l : List Int) : Int × RS := numC (l, 0) 8 1000
def trC (l : List Int) : List Ta × RS := tsC (tmS l).1.toNat (tmS l).2
def trS (l : List Int) : Bool × List Ta := if endC (trC l).2 = 0 then (true, (trC l).1) else (false, [])
structure TaOk (a : Ta) : Prop where
  kind : 0 ≤ a.kind ∧ a.kind ≤ 255
  client : 0 ≤ a.client ∧ a.client ≤ 255
  handle : 0 ≤ a.handle ∧ a.handle ≤ 4611686018427387904
  box : 0 ≤ a.box ∧ a.box ≤ 4611686018427387904
  k : 0 ≤ a.k ∧ a.k ≤ 4611686018427387904
  name : a.name.length ≤ 255 ∧ Bytes a.name
  value : a.value.length ≤ 65536 ∧ Bytes a.value
  stay : a.stay.length ≤ 1000
  raw : a.raw.length ≤ 65536 ∧ Bytes a.raw
theorem trp1_ok {s : RS} (h : RsOk s) : RsOk (trp1 s).2 := h.num _ _
theorem trp2_ok {s : RS} (h : RsOk s) : RsOk (trp2 s).2 := (trp1_ok h).num _ _
theorem trp3_ok {s : RS} (h : RsOk s) : RsOk (trp3 s).2 := (trp2_ok h).num _ _
theorem trp4_ok {s : RS} (h : RsOk s) : RsOk (trp4 s).2 := (trp3_ok h).num _ _
theorem trp5_ok {s : RS} (h : RsOk s) : RsOk (trp5 s).2 := (trp4_ok h).num _ _
theorem trp6_ok {s : RS} (h : RsOk s) : RsOk (trp6 s).2 ∧ Bytes (trp6 s).1 ∧ ((trp6 s).1.length : Int) ≤ 255 := (trp5_ok h).by (by omega)
theorem trp7_ok {s : RS} (h : RsOk s) : RsOk (trp7 s).2 ∧ Bytes (trp7 s).1 ∧ ((trp7 s).1.length : Int) ≤ 65536 := (trp6_ok h).1.by (by omega)
theorem trp8_ok {s : RS} (h : RsOk s) : RsOk (trp8 s).2 := (trp7_ok h).1.num _ _
theorem trp8_bd {s : RS} (h : RsOk s) : 0 ≤ (trp8 s).1 ∧ (trp8 s).1 ≤ 1000 := numC_bd (trp7_ok h).1 (by omega)
theorem stC_ok {s : RS} (h : RsOk s) : ∀ k, RsOk (stC k s).2 ∧ (stC k s).1.length = k
  | 0 => ⟨h, rfl⟩
  | k + 1 => ⟨(stC_ok h k).1.num _ _, by show ((stC k s).1 ++ [_]).length = k + 1; rw [List.length_append, (stC_ok h k).2]; rfl⟩
theorem trp9_ok {s : RS} (h : RsOk s) : RsOk (trp9 s).2 ∧ (trp9 s).1.length = (trp8 s).1.toNat := stC_ok (trp8_ok h) _
theorem trp10_ok {s : RS} (h : RsOk s) : RsOk (trp10 s).2 ∧ Bytes (trp10 s).1 ∧ ((trp10 s).1.length : Int) ≤ 65536 := (trp9_ok h).1.by (by omega)
theorem tsC_ok {s : RS} (h : RsOk s) : ∀ k, RsOk (tsC k s).2 ∧ (tsC k s).1.length = k
  | 0 => ⟨h, rfl⟩
  | k + 1 => ⟨(trp10_ok (tsC_ok h k).1).1, by show ((tsC k s).1 ++ [_]).length = k + 1; rw [List.length_append, (tsC_ok h k).2]; rfl⟩
theorem tmS_bd {l : List Int} (hb : Bytes l) (hl : l.length ≤ 1000000) : 0 ≤ (tmS l).1 ∧ (tmS l).1 ≤ 1000 := numC_bd (s := (l, 0)) ⟨hb, Nat.le_trans hl (by decide)⟩ (by omega)
theorem tmS_ok {l : List Int} (hb : Bytes l) (hl : l.length ≤ 1000000) : RsOk (tmS l).2 := RsOk.num (s := (l, 0)) ⟨hb, Nat.le_trans hl (by decide)⟩ _ _
end Go.Proofs.YtndpclcbobgdlaaGreatDoor
end

section
namespace Go.Proofs.YtndpclcbobgdlaaGreatDoor
open Go Go.Ck
set_option maxHeartbeats 1000000
structure Ts where
  a : Ta
  nv : Value
  vv : Value
  sv : Value
  rv : Value
def bls (l : List Bool) : List Value := l.map Value.bool
theorem bls_len (l : List Bool) : (bls l).length = l.length := by simp [bls]
theorem bls_app (l m : List Bool) : bls (l ++ m) = bls l ++ bls m := by simp [bls]
theorem bls_one (l : List Bool) : ∀ u ∈ bls l, u.oneCell' = true := fun u hu => by
  obtain ⟨b, _, rfl⟩ := List.mem_map.1 hu
  rfl
def tsc (x : Ts) : List Value := [.int .i64 x.a.kind, .int .i64 x.a.client, x.nv, x.vv, .int .i64 x.a.handle, .int .i64 x.a.box, .int .i64 x.a.k, x.sv, x.rv]
def rtc (x : Ts) : List Value := [.int .i64 x.a.kind, .int .i64 x.a.client, .int .i64 x.a.handle, .int .i64 x.a.box, .int .i64 x.a.k, x.nv, x.vv, x.sv, x.rv]
structure Tsv (h : View) (x : Ts) : Prop where
  n : Bs8 h x.nv x.a.name
  v : Bs8 h x.vv x.a.value
  s : Sc h 1 x.sv x.a.stay.length (bls x.a.stay)
  r : Bs8 h x.rv x.a.raw
structure Rtv (h : View) (x : Ts) : Prop where
  n : x.nv = .string (bstr x.a.name)
  v : x.vv = .string (bstr x.a.value)
  s : Sc h 1 x.sv x.a.stay.length (bls x.a.stay)
  r : x.rv = .string (bstr x.a.raw)
theorem Tsv.mono {h h' : View} {x : Ts} (t : Tsv h x) (hl : Le h h') : Tsv h' x := ⟨t.n.mono hl, t.v.mono hl, t.s.mono hl, t.r.mono hl⟩
theorem Rtv.mono {h h' : View} {x : Ts} (t : Rtv h x) (hl : Le h h') : Rtv h' x := ⟨t.n, t.v, t.s.mono hl, t.r⟩
def Tss (h : View) (v : Value) (l : List Ts) : Prop := Sc h 9 v l.length (l.flatMap tsc) ∧ ∀ x ∈ l, Tsv h x
def Rts (h : View) (v : Value) (l : List Ts) : Prop := Sc h 9 v l.length (l.flatMap rtc) ∧ ∀ x ∈ l, Rtv h x
theorem Tss.mono {h h' : View} {v : Value} {l : List Ts} (t : Tss h v l) (hl : Le h h') : Tss h' v l := ⟨t.1.mono hl, fun x hx => (t.2 x hx).mono hl⟩
theorem Rts.mono {h h' : View} {v : Value} {l : List Ts} (t : Rts h v l) (hl : Le h h') : Rts h' v l := ⟨t.1.mono hl, fun x hx => (t.2 x hx).mono hl⟩
theorem tsc_len (x : Ts) : (tsc x).length = 9 := rfl
theorem rtc_len (x : Ts) : (rtc x).length = 9 := rfl
theorem sc_oneC {h : View} {k m : Nat} {v : Value} {xs : List Value} (s : Sc h k v m xs) : v.oneCell' = true := by
  obtain ⟨_, _, _, e, _⟩ := s
  rw [e]
  rfl
theorem Tsv.ones {h : View} {x : Ts} (t : Tsv h x) : ∀ u ∈ tsc x, u.oneCell' = true := fun u hu => by
  simp only [tsc, List.mem_cons, List.not_mem_nil, or_false] at hu
  rcases hu with rfl | rfl | rfl | rfl | rfl | rfl | rfl | rfl | rfl
  · rfl
  · rfl
  · exact sc_oneC t.n
  · exact sc_oneC t.v
  · rfl
  · rfl
  · rfl
  · exact sc_oneC t.s
  · exact sc_oneC t.r
theorem Rtv.ones {h : View} {x : Ts} (t : Rtv h x) : ∀ u ∈ rtc x, u.oneCell' = true := fun u hu => by
  simp only [rtc, List.mem_cons, List.not_mem_nil, or_false] at hu
  rcases hu with rfl | rfl | rfl | rfl | rfl | rfl | rfl | rfl | rfl
  · rfl
  · rfl
  · rfl
  · rfl
  · rfl
  · rw [t.n]; rfl
  · rw [t.v]; rfl
  · exact sc_oneC t.s
  · rw [t.r]; rfl
end Go.Proofs.YtndpclcbobgdlaaGreatDoor
end

section
namespace Go.Proofs.YtndpclcbobgdlaaGreatDoor
open Go Go.Ck
instance cku22 : TyU Tryz.prog 22 (Go.TypeDesc.slice 36) := ⟨Tryz.underlying22⟩
instance cku23 : TyU Tryz.prog 23 (Go.TypeDesc.slice 39) := ⟨Tryz.underlying23⟩
instance cku34 : TyU Tryz.prog 34 (Go.TypeDesc.slice 4) := ⟨Tryz.underlying34⟩
instance ckf36_0 : TyF Tryz.prog 36 0 0 3 1 := ⟨_, _, Tryz.underlying36, rfl, rfl, rfl, Tryz.sizeOf3⟩
instance ckf36_1 : TyF Tryz.prog 36 1 1 3 1 := ⟨_, _, Tryz.underlying36, rfl, rfl, rfl, Tryz.sizeOf3⟩
instance ckf36_2 : TyF Tryz.prog 36 2 2 3 1 := ⟨_, _, Tryz.underlying36, rfl, rfl, rfl, Tryz.sizeOf3⟩
instance ckf36_3 : TyF Tryz.prog 36 3 3 3 1 := ⟨_, _, Tryz.underlying36, rfl, rfl, rfl, Tryz.sizeOf3⟩
instance ckf36_4 : TyF Tryz.prog 36 4 4 3 1 := ⟨_, _, Tryz.underlying36, rfl, rfl, rfl, Tryz.sizeOf3⟩
instance ckf36_5 : TyF Tryz.prog 36 5 5 9 1 := ⟨_, _, Tryz.underlying36, rfl, rfl, rfl, Tryz.sizeOf9⟩
instance ckf36_6 : TyF Tryz.prog 36 6 6 9 1 := ⟨_, _, Tryz.underlying36, rfl, rfl, rfl, Tryz.sizeOf9⟩
instance ckf36_7 : TyF Tryz.prog 36 7 7 34 1 := ⟨_, _, Tryz.underlying36, rfl, rfl, rfl, Tryz.sizeOf34⟩
instance ckf36_8 : TyF Tryz.prog 36 8 8 9 1 := ⟨_, _, Tryz.underlying36, rfl, rfl, rfl, Tryz.sizeOf9⟩
instance ckf39_0 : TyF Tryz.prog 39 0 0 3 1 := ⟨_, _, Tryz.underlying39, rfl, rfl, rfl, Tryz.sizeOf3⟩
instance ckf39_1 : TyF Tryz.prog 39 1 1 3 1 := ⟨_, _, Tryz.underlying39, rfl, rfl, rfl, Tryz.sizeOf3⟩
instance ckf39_2 : TyF Tryz.prog 39 2 2 28 1 := ⟨_, _, Tryz.underlying39, rfl, rfl, rfl, Tryz.sizeOf28⟩
instance ckf39_3 : TyF Tryz.prog 39 3 3 28 1 := ⟨_, _, Tryz.underlying39, rfl, rfl, rfl, Tryz.sizeOf28⟩
instance ckf39_4 : TyF Tryz.prog 39 4 4 3 1 := ⟨_, _, Tryz.underlying39, rfl, rfl, rfl, Tryz.sizeOf3⟩
instance ckf39_5 : TyF Tryz.prog 39 5 5 3 1 := ⟨_, _, Tryz.underlying39, rfl, rfl, rfl, Tryz.sizeOf3⟩
instance ckf39_6 : TyF Tryz.prog 39 6 6 3 1 := ⟨_, _, Tryz.underlying39, rfl, rfl, rfl, Tryz.sizeOf3⟩
instance ckf39_7 : TyF Tryz.prog 39 7 7 34 1 := ⟨_, _, Tryz.underlying39, rfl, rfl, rfl, Tryz.sizeOf34⟩
instance ckf39_8 : TyF Tryz.prog 39 8 8 28 1 := ⟨_, _, Tryz.underlying39, rfl, rfl, rfl, Tryz.sizeOf28⟩
instance ckf60_0 : TyF Tryz.prog 60 0 0 3 1 := ⟨_, _, Tryz.underlying60, rfl, rfl, rfl, Tryz.sizeOf3⟩
instance ckf60_1 : TyF Tryz.prog 60 1 1 3 1 := ⟨_, _, Tryz.underlying60, rfl, rfl, rfl, Tryz.sizeOf3⟩
instance ckf60_2 : TyF Tryz.prog 60 2 2 3 1 := ⟨_, _, Tryz.underlying60, rfl, rfl, rfl, Tryz.sizeOf3⟩
instance ckf60_3 : TyF Tryz.prog 60 3 3 3 1 := ⟨_, _, Tryz.underlying60, rfl, rfl, rfl, Tryz.sizeOf3⟩
instance ckf60_4 : TyF Tryz.prog 60 4 4 3 1 := ⟨_, _, Tryz.underlying60, rfl, rfl, rfl, Tryz.sizeOf3⟩
instance ckf60_5 : TyF Tryz.prog 60 5 5 3 1 := ⟨_, _, Tryz.underlying60, rfl, rfl, rfl, Tryz.sizeOf3⟩
instance ckf60_6 : TyF Tryz.prog 60 6 6 3 1 := ⟨_, _, Tryz.underlying60, rfl, rfl, rfl, Tryz.sizeOf3⟩
instance ckf63_0 : TyF Tryz.prog 63 0 0 60 7 := ⟨_, _, Tryz.underlying63, rfl, rfl, rfl, Tryz.sizeOf60⟩
instance ckf63_1 : TyF Tryz.prog 63 1 7 3 1 := ⟨_, _, Tryz.underlying63, rfl, rfl, rfl, Tryz.sizeOf3⟩
instance ckf63_2 : TyF Tryz.prog 63 2 8 4 1 := ⟨_, _, Tryz.underlying63, rfl, rfl, rfl, Tryz.sizeOf4⟩
instance ckf63_3 : TyF Tryz.prog 63 3 9 61 32 := ⟨_, _, Tryz.underlying63, rfl, rfl, rfl, Tryz.sizeOf61⟩
instance cku80 : TyU Tryz.prog 80 (Go.TypeDesc.pointer 111) := ⟨Tryz.underlying80⟩
instance cku86 : TyU Tryz.prog 86 (Go.TypeDesc.slice 127) := ⟨Tryz.underlying86⟩
instance cku98 : TyU Tryz.prog 98 (Go.TypeDesc.slice 97) := ⟨Tryz.underlying98⟩
instance cku105 : TyU Tryz.prog 105 (Go.TypeDesc.pointer 217) := ⟨Tryz.underlying105⟩
instance cku112 : TyU Tryz.prog 112 (Go.TypeDesc.pointer 166) := ⟨Tryz.underlying112⟩
instance ckf127_0 : TyF Tryz.prog 127 0 0 121 2 := ⟨_, _, Tryz.underlying127, rfl, rfl, rfl, Tryz.sizeOf121⟩
instance ckf127_1 : TyF Tryz.prog 127 1 2 3 1 := ⟨_, _, Tryz.underlying127, rfl, rfl, rfl, Tryz.sizeOf3⟩
instance ckf127_2 : TyF Tryz.prog 127 2 3 125 17 := ⟨_, _, Tryz.underlying127, rfl, rfl, rfl, Tryz.sizeOf125⟩
instance ckf127_3 : TyF Tryz.prog 127 3 20 4 1 := ⟨_, _, Tryz.underlying127, rfl, rfl, rfl, Tryz.sizeOf4⟩
instance ckf127_4 : TyF Tryz.prog 127 4 21 28 1 := ⟨_, _, Tryz.underlying127, rfl, rfl, rfl, Tryz.sizeOf28⟩
instance cku164 : TyU Tryz.prog 164 (Go.TypeDesc.map 9 3) := ⟨Tryz.underlying164⟩
instance ckf166_0 : TyF Tryz.prog 166 0 0 3 1 := ⟨_, _, Tryz.underlying166, rfl, rfl, rfl, Tryz.sizeOf3⟩
instance ckf166_1 : TyF Tryz.prog 166 1 1 105 1 := ⟨_, _, Tryz.underlying166, rfl, rfl, rfl, Tryz.sizeOf105⟩
instance ckf166_2 : TyF Tryz.prog 166 2 2 3 1 := ⟨_, _, Tryz.underlying166, rfl, rfl, rfl, Tryz.sizeOf3⟩
instance ckf166_3 : TyF Tryz.prog 166 3 3 3 1 := ⟨_, _, Tryz.underlying166, rfl, rfl, rfl, Tryz.sizeOf3⟩
instance ckf166_4 : TyF Tryz.prog 166 4 4 164 1 := ⟨_, _, Tryz.underlying166, rfl, rfl, rfl, Tryz.sizeOf164⟩
instance cku174 : TyU Tryz.prog 174 (Go.TypeDesc.array 32 5) := ⟨Tryz.underlying174⟩
instance cku189 : TyU Tryz.prog 189 (Go.TypeDesc.slice 133) := ⟨Tryz.underlying189⟩
instance cku214 : TyU Tryz.prog 214 (Go.TypeDesc.map 477 4) := ⟨Tryz.underlying214⟩
instance cku215 : TyU Tryz.prog 215 (Go.TypeDesc.map 479 28) := ⟨Tryz.underlying215⟩
instance ckf217_0 : TyF Tryz.prog 217 0 0 4 1 := ⟨_, _, Tryz.underlying217, rfl, rfl, rfl, Tryz.sizeOf4⟩
instance ckf217_1 : TyF Tryz.prog 217 1 1 61 32 := ⟨_, _, Tryz.underlying217, rfl, rfl, rfl, Tryz.sizeOf61⟩
instance ckf217_2 : TyF Tryz.prog 217 2 33 164 1 := ⟨_, _, Tryz.underlying217, rfl, rfl, rfl, Tryz.sizeOf164⟩
instance ckf217_3 : TyF Tryz.prog 217 3 34 214 1 := ⟨_, _, Tryz.underlying217, rfl, rfl, rfl, Tryz.sizeOf214⟩
instance ckf217_4 : TyF Tryz.prog 217 4 35 215 1 := ⟨_, _, Tryz.underlying217, rfl, rfl, rfl, Tryz.sizeOf215⟩
instance ckf323_0 : TyF Tryz.prog 323 0 0 3 1 := ⟨_, _, Tryz.underlying323, rfl, rfl, rfl, Tryz.sizeOf3⟩
instance ckf323_1 : TyF Tryz.prog 323 1 1 3 1 := ⟨_, _, Tryz.underlying323, rfl, rfl, rfl, Tryz.sizeOf3⟩
instance ckf323_2 : TyF Tryz.prog 323 2 2 121 2 := ⟨_, _, Tryz.underlying323, rfl, rfl, rfl, Tryz.sizeOf121⟩
instance ckf323_3 : TyF Tryz.prog 323 3 4 28 1 := ⟨_, _, Tryz.underlying323, rfl, rfl, rfl, Tryz.sizeOf28⟩
instance ckf325_0 : TyF Tryz.prog 325 0 0 174 32 := ⟨_, _, Tryz.underlying325, rfl, rfl, rfl, Tryz.sizeOf174⟩
instance ckf325_1 : TyF Tryz.prog 325 1 32 323 5 := ⟨_, _, Tryz.underlying325, rfl, rfl, rfl, Tryz.sizeOf323⟩
instance ckf325_2 : TyF Tryz.prog 325 2 37 28 1 := ⟨_, _, Tryz.underlying325, rfl, rfl, rfl, Tryz.sizeOf28⟩
instance cku364 : TyU Tryz.prog 364 (Go.TypeDesc.array 2 3) := ⟨Tryz.underlying364⟩
instance ckf477_0 : TyF Tryz.prog 477 0 0 3 1 := ⟨_, _, Tryz.underlying477, rfl, rfl, rfl, Tryz.sizeOf3⟩
instance ckf477_1 : TyF Tryz.prog 477 1 1 3 1 := ⟨_, _, Tryz.underlying477, rfl, rfl, rfl, Tryz.sizeOf3⟩
instance ckf479_0 : TyF Tryz.prog 479 0 0 477 2 := ⟨_, _, Tryz.underlying479, rfl, rfl, rfl, Tryz.sizeOf477⟩
instance ckf479_1 : TyF Tryz.prog 479 1 2 3 1 := ⟨_, _, Tryz.underlying479, rfl, rfl, rfl, Tryz.sizeOf3⟩
instance ckf479_2 : TyF Tryz.prog 479 2 3 9 1 := ⟨_, _, Tryz.underlying479, rfl, rfl, rfl, Tryz.sizeOf9⟩
instance ckf479_3 : TyF Tryz.prog 479 3 4 9 1 := ⟨_, _, Tryz.underlying479, rfl, rfl, rfl, Tryz.sizeOf9⟩
instance cku520 : TyU Tryz.prog 520 (Go.TypeDesc.array 16 5) := ⟨Tryz.underlying520⟩
instance cku542 : TyU Tryz.prog 542 (Go.TypeDesc.array 16 133) := ⟨Tryz.underlying542⟩
instance cku554 : TyU Tryz.prog 554 (Go.TypeDesc.array 5 73) := ⟨Tryz.underlying554⟩
instance cku555 : TyU Tryz.prog 555 (Go.TypeDesc.array 5 73) := ⟨Tryz.underlying555⟩
instance cku566 : TyU Tryz.prog 566 (Go.TypeDesc.pointer 542) := ⟨Tryz.underlying566⟩
instance cku572 : TyU Tryz.prog 572 (Go.TypeDesc.array 17 5) := ⟨Tryz.underlying572⟩
instance cku577 : TyU Tryz.prog 577 (Go.TypeDesc.array 2 364) := ⟨Tryz.underlying577⟩
instance cka22 : TyA Tryz.prog 22 false := ⟨Tryz.isAgg22⟩
instance cka23 : TyA Tryz.prog 23 false := ⟨Tryz.isAgg23⟩
instance cka34 : TyA Tryz.prog 34 false := ⟨Tryz.isAgg34⟩
instance cka36 : TyA Tryz.prog 36 true := ⟨Tryz.isAgg36⟩
instance cka39 : TyA Tryz.prog 39 true := ⟨Tryz.isAgg39⟩
instance cka60 : TyA Tryz.prog 60 true := ⟨Tryz.isAgg60⟩
instance cka63 : TyA Tryz.prog 63 true := ⟨Tryz.isAgg63⟩
instance cka80 : TyA Tryz.prog 80 false := ⟨Tryz.isAgg80⟩
instance cka86 : TyA Tryz.prog 86 false := ⟨Tryz.isAgg86⟩
instance cka98 : TyA Tryz.prog 98 false := ⟨Tryz.isAgg98⟩
instance cka105 : TyA Tryz.prog 105 false := ⟨Tryz.isAgg105⟩
instance cka112 : TyA Tryz.prog 112 false := ⟨Tryz.isAgg112⟩
instance cka127 : TyA Tryz.prog 127 true := ⟨Tryz.isAgg127⟩
instance cka164 : TyA Tryz.prog 164 false := ⟨Tryz.isAgg164⟩
instance cka166 : TyA Tryz.prog 166 true := ⟨Tryz.isAgg166⟩
instance cka174 : TyA Tryz.prog 174 true := ⟨Tryz.isAgg174⟩
instance cka189 : TyA Tryz.prog 189 false := ⟨Tryz.isAgg189⟩
instance cka214 : TyA Tryz.prog 214 false := ⟨Tryz.isAgg214⟩
instance cka215 : TyA Tryz.prog 215 false := ⟨Tryz.isAgg215⟩
instance cka217 : TyA Tryz.prog 217 true := ⟨Tryz.isAgg217⟩
instance cka323 : TyA Tryz.prog 323 true := ⟨Tryz.isAgg323⟩
instance cka325 : TyA Tryz.prog 325 true := ⟨Tryz.isAgg325⟩
instance cka364 : TyA Tryz.prog 364 true := ⟨Tryz.isAgg364⟩
instance cka477 : TyA Tryz.prog 477 true := ⟨Tryz.isAgg477⟩
instance cka479 : TyA Tryz.prog 479 true := ⟨Tryz.isAgg479⟩
instance cka520 : TyA Tryz.prog 520 true := ⟨Tryz.isAgg520⟩
instance cka542 : TyA Tryz.prog 542 true := ⟨Tryz.isAgg542⟩
instance cka554 : TyA Tryz.prog 554 true := ⟨Tryz.isAgg554⟩
instance cka555 : TyA Tryz.prog 555 true := ⟨Tryz.isAgg555⟩
instance cka566 : TyA Tryz.prog 566 false := ⟨Tryz.isAgg566⟩
instance cka572 : TyA Tryz.prog 572 true := ⟨Tryz.isAgg572⟩
instance cka577 : TyA Tryz.prog 577 true := ⟨Tryz.isAgg577⟩
instance cks22 : TyS Tryz.prog 22 1 := ⟨Tryz.sizeOf22⟩
instance cks23 : TyS Tryz.prog 23 1 := ⟨Tryz.sizeOf23⟩
instance cks34 : TyS Tryz.prog 34 1 := ⟨Tryz.sizeOf34⟩
instance cks36 : TyS Tryz.prog 36 9 := ⟨Tryz.sizeOf36⟩
instance cks39 : TyS Tryz.prog 39 9 := ⟨Tryz.sizeOf39⟩
instance cks60 : TyS Tryz.prog 60 7 := ⟨Tryz.sizeOf60⟩
instance cks63 : TyS Tryz.prog 63 41 := ⟨Tryz.sizeOf63⟩
instance cks80 : TyS Tryz.prog 80 1 := ⟨Tryz.sizeOf80⟩
instance cks86 : TyS Tryz.prog 86 1 := ⟨Tryz.sizeOf86⟩
instance cks98 : TyS Tryz.prog 98 1 := ⟨Tryz.sizeOf98⟩
instance cks105 : TyS Tryz.prog 105 1 := ⟨Tryz.sizeOf105⟩
instance cks112 : TyS Tryz.prog 112 1 := ⟨Tryz.sizeOf112⟩
instance cks127 : TyS Tryz.prog 127 22 := ⟨Tryz.sizeOf127⟩
instance cks164 : TyS Tryz.prog 164 1 := ⟨Tryz.sizeOf164⟩
instance cks166 : TyS Tryz.prog 166 5 := ⟨Tryz.sizeOf166⟩
instance cks174 : TyS Tryz.prog 174 32 := ⟨Tryz.sizeOf174⟩
instance cks189 : TyS Tryz.prog 189 1 := ⟨Tryz.sizeOf189⟩
instance cks214 : TyS Tryz.prog 214 1 := ⟨Tryz.sizeOf214⟩
instance cks215 : TyS Tryz.prog 215 1 := ⟨Tryz.sizeOf215⟩
instance cks217 : TyS Tryz.prog 217 36 := ⟨Tryz.sizeOf217⟩
instance cks323 : TyS Tryz.prog 323 5 := ⟨Tryz.sizeOf323⟩
instance cks325 : TyS Tryz.prog 325 38 := ⟨Tryz.sizeOf325⟩
instance cks364 : TyS Tryz.prog 364 2 := ⟨Tryz.sizeOf364⟩
instance cks477 : TyS Tryz.prog 477 2 := ⟨Tryz.sizeOf477⟩
instance cks479 : TyS Tryz.prog 479 5 := ⟨Tryz.sizeOf479⟩
instance cks520 : TyS Tryz.prog 520 16 := ⟨Tryz.sizeOf520⟩
instance cks542 : TyS Tryz.prog 542 16 := ⟨Tryz.sizeOf542⟩
instance cks554 : TyS Tryz.prog 554 5 := ⟨Tryz.sizeOf554⟩
instance cks555 : TyS Tryz.prog 555 5 := ⟨Tryz.sizeOf555⟩
instance cks566 : TyS Tryz.prog 566 1 := ⟨Tryz.sizeOf566⟩
instance cks572 : TyS Tryz.prog 572 17 := ⟨Tryz.sizeOf572⟩
instance cks577 : TyS Tryz.prog 577 4 := ⟨Tryz.sizeOf577⟩
instance ckz22 : TyZ Tryz.prog 22 (Go.Value.slice none 0 0) := ⟨Tryz.zeroValue22⟩
instance ckz23 : TyZ Tryz.prog 23 (Go.Value.slice none 0 0) := ⟨Tryz.zeroValue23⟩
instance ckz34 : TyZ Tryz.prog 34 (Go.Value.slice none 0 0) := ⟨Tryz.zeroValue34⟩
instance ckz36 : TyZ Tryz.prog 36 (Go.Value.agg #[Go.Value.int Go.IntKind.i64 0, Go.Value.int Go.IntKind.i64 0, Go.Value.int Go.IntKind.i64 0, Go.Value.int Go.IntKind.i64 0, Go.Value.int Go.IntKind.i64 0, Go.Value.string { data := #[] }, Go.Value.string { data := #[] }, Go.Value.slice none 0 0, Go.Value.string { data := #[] }]) := ⟨Tryz.zeroValue36⟩
instance ckz39 : TyZ Tryz.prog 39 (Go.Value.agg #[Go.Value.int Go.IntKind.i64 0, Go.Value.int Go.IntKind.i64 0, Go.Value.slice none 0 0, Go.Value.slice none 0 0, Go.Value.int Go.IntKind.i64 0, Go.Value.int Go.IntKind.i64 0, Go.Value.int Go.IntKind.i64 0, Go.Value.slice none 0 0, Go.Value.slice none 0 0]) := ⟨Tryz.zeroValue39⟩
instance ckz60 : TyZ Tryz.prog 60 (Go.Value.agg #[Go.Value.int Go.IntKind.i64 0, Go.Value.int Go.IntKind.i64 0, Go.Value.int Go.IntKind.i64 0, Go.Value.int Go.IntKind.i64 0, Go.Value.int Go.IntKind.i64 0, Go.Value.int Go.IntKind.i64 0, Go.Value.int Go.IntKind.i64 0]) := ⟨Tryz.zeroValue60⟩
instance ckz63 : TyZ Tryz.prog 63 (Go.Value.agg #[Go.Value.int Go.IntKind.i64 0, Go.Value.int Go.IntKind.i64 0, Go.Value.int Go.IntKind.i64 0, Go.Value.int Go.IntKind.i64 0, Go.Value.int Go.IntKind.i64 0, Go.Value.int Go.IntKind.i64 0, Go.Value.int Go.IntKind.i64 0, Go.Value.int Go.IntKind.i64 0, Go.Value.bool false, Go.Value.int Go.IntKind.u8 0, Go.Value.int Go.IntKind.u8 0, Go.Value.int Go.IntKind.u8 0, Go.Value.int Go.IntKind.u8 0, Go.Value.int Go.IntKind.u8 0, Go.Value.int Go.IntKind.u8 0, Go.Value.int Go.IntKind.u8 0, Go.Value.int Go.IntKind.u8 0, Go.Value.int Go.IntKind.u8 0, Go.Value.int Go.IntKind.u8 0, Go.Value.int Go.IntKind.u8 0, Go.Value.int Go.IntKind.u8 0, Go.Value.int Go.IntKind.u8 0, Go.Value.int Go.IntKind.u8 0, Go.Value.int Go.IntKind.u8 0, Go.Value.int Go.IntKind.u8 0, Go.Value.int Go.IntKind.u8 0, Go.Value.int Go.IntKind.u8 0, Go.Value.int Go.IntKind.u8 0, Go.Value.int Go.IntKind.u8 0, Go.Value.int Go.IntKind.u8 0, Go.Value.int Go.IntKind.u8 0, Go.Value.int Go.IntKind.u8 0, Go.Value.int Go.IntKind.u8 0, Go.Value.int Go.IntKind.u8 0, Go.Value.int Go.IntKind.u8 0, Go.Value.int Go.IntKind.u8 0, Go.Value.int Go.IntKind.u8 0, Go.Value.int Go.IntKind.u8 0, Go.Value.int Go.IntKind.u8 0, Go.Value.int Go.IntKind.u8 0, Go.Value.int Go.IntKind.u8 0]) := ⟨Tryz.zeroValue63⟩
instance ckz80 : TyZ Tryz.prog 80 (Go.Value.pointer none) := ⟨Tryz.zeroValue80⟩
instance ckz86 : TyZ Tryz.prog 86 (Go.Value.slice none 0 0) := ⟨Tryz.zeroValue86⟩
instance ckz98 : TyZ Tryz.prog 98 (Go.Value.slice none 0 0) := ⟨Tryz.zeroValue98⟩
instance ckz105 : TyZ Tryz.prog 105 (Go.Value.pointer none) := ⟨Tryz.zeroValue105⟩
instance ckz112 : TyZ Tryz.prog 112 (Go.Value.pointer none) := ⟨Tryz.zeroValue112⟩
instance ckz127 : TyZ Tryz.prog 127 (Go.Value.agg #[Go.Value.int Go.IntKind.i64 0, Go.Value.int Go.IntKind.i64 0, Go.Value.int Go.IntKind.i64 0, Go.Value.int Go.IntKind.i64 0, Go.Value.int Go.IntKind.i64 0, Go.Value.int Go.IntKind.i64 0, Go.Value.int Go.IntKind.i64 0, Go.Value.int Go.IntKind.i64 0, Go.Value.int Go.IntKind.i64 0, Go.Value.int Go.IntKind.i64 0, Go.Value.int Go.IntKind.i64 0, Go.Value.int Go.IntKind.i64 0, Go.Value.int Go.IntKind.i64 0, Go.Value.int Go.IntKind.i64 0, Go.Value.int Go.IntKind.i64 0, Go.Value.int Go.IntKind.i64 0, Go.Value.int Go.IntKind.i64 0, Go.Value.int Go.IntKind.i64 0, Go.Value.int Go.IntKind.i64 0, Go.Value.slice none 0 0, Go.Value.bool false, Go.Value.slice none 0 0]) := ⟨Tryz.zeroValue127⟩
instance ckz164 : TyZ Tryz.prog 164 (Go.Value.map none) := ⟨Tryz.zeroValue164⟩
instance ckz166 : TyZ Tryz.prog 166 (Go.Value.agg #[Go.Value.int Go.IntKind.i64 0, Go.Value.pointer none, Go.Value.int Go.IntKind.i64 0, Go.Value.int Go.IntKind.i64 0, Go.Value.map none]) := ⟨Tryz.zeroValue166⟩
instance ckz174 : TyZ Tryz.prog 174 (Go.Value.agg #[Go.Value.int Go.IntKind.u8 0, Go.Value.int Go.IntKind.u8 0, Go.Value.int Go.IntKind.u8 0, Go.Value.int Go.IntKind.u8 0, Go.Value.int Go.IntKind.u8 0, Go.Value.int Go.IntKind.u8 0, Go.Value.int Go.IntKind.u8 0, Go.Value.int Go.IntKind.u8 0, Go.Value.int Go.IntKind.u8 0, Go.Value.int Go.IntKind.u8 0, Go.Value.int Go.IntKind.u8 0, Go.Value.int Go.IntKind.u8 0, Go.Value.int Go.IntKind.u8 0, Go.Value.int Go.IntKind.u8 0, Go.Value.int Go.IntKind.u8 0, Go.Value.int Go.IntKind.u8 0, Go.Value.int Go.IntKind.u8 0, Go.Value.int Go.IntKind.u8 0, Go.Value.int Go.IntKind.u8 0, Go.Value.int Go.IntKind.u8 0, Go.Value.int Go.IntKind.u8 0, Go.Value.int Go.IntKind.u8 0, Go.Value.int Go.IntKind.u8 0, Go.Value.int Go.IntKind.u8 0, Go.Value.int Go.IntKind.u8 0, Go.Value.int Go.IntKind.u8 0, Go.Value.int Go.IntKind.u8 0, Go.Value.int Go.IntKind.u8 0, Go.Value.int Go.IntKind.u8 0, Go.Value.int Go.IntKind.u8 0, Go.Value.int Go.IntKind.u8 0, Go.Value.int Go.IntKind.u8 0]) := ⟨Tryz.zeroValue174⟩
instance ckz189 : TyZ Tryz.prog 189 (Go.Value.slice none 0 0) := ⟨Tryz.zeroValue189⟩
instance ckz214 : TyZ Tryz.prog 214 (Go.Value.map none) := ⟨Tryz.zeroValue214⟩
instance ckz215 : TyZ Tryz.prog 215 (Go.Value.map none) := ⟨Tryz.zeroValue215⟩
instance ckz217 : TyZ Tryz.prog 217 (Go.Value.agg #[Go.Value.bool false, Go.Value.int Go.IntKind.u8 0, Go.Value.int Go.IntKind.u8 0, Go.Value.int Go.IntKind.u8 0, Go.Value.int Go.IntKind.u8 0, Go.Value.int Go.IntKind.u8 0, Go.Value.int Go.IntKind.u8 0, Go.Value.int Go.IntKind.u8 0, Go.Value.int Go.IntKind.u8 0, Go.Value.int Go.IntKind.u8 0, Go.Value.int Go.IntKind.u8 0, Go.Value.int Go.IntKind.u8 0, Go.Value.int Go.IntKind.u8 0, Go.Value.int Go.IntKind.u8 0, Go.Value.int Go.IntKind.u8 0, Go.Value.int Go.IntKind.u8 0, Go.Value.int Go.IntKind.u8 0, Go.Value.int Go.IntKind.u8 0, Go.Value.int Go.IntKind.u8 0, Go.Value.int Go.IntKind.u8 0, Go.Value.int Go.IntKind.u8 0, Go.Value.int Go.IntKind.u8 0, Go.Value.int Go.IntKind.u8 0, Go.Value.int Go.IntKind.u8 0, Go.Value.int Go.IntKind.u8 0, Go.Value.int Go.IntKind.u8 0, Go.Value.int Go.IntKind.u8 0, Go.Value.int Go.IntKind.u8 0, Go.Value.int Go.IntKind.u8 0, Go.Value.int Go.IntKind.u8 0, Go.Value.int Go.IntKind.u8 0, Go.Value.int Go.IntKind.u8 0, Go.Value.int Go.IntKind.u8 0, Go.Value.map none, Go.Value.map none, Go.Value.map none]) := ⟨Tryz.zeroValue217⟩
instance ckz323 : TyZ Tryz.prog 323 (Go.Value.agg #[Go.Value.int Go.IntKind.i64 0, Go.Value.int Go.IntKind.i64 0, Go.Value.int Go.IntKind.i64 0, Go.Value.int Go.IntKind.i64 0, Go.Value.slice none 0 0]) := ⟨Tryz.zeroValue323⟩
instance ckz325 : TyZ Tryz.prog 325 (Go.Value.agg #[Go.Value.int Go.IntKind.u8 0, Go.Value.int Go.IntKind.u8 0, Go.Value.int Go.IntKind.u8 0, Go.Value.int Go.IntKind.u8 0, Go.Value.int Go.IntKind.u8 0, Go.Value.int Go.IntKind.u8 0, Go.Value.int Go.IntKind.u8 0, Go.Value.int Go.IntKind.u8 0, Go.Value.int Go.IntKind.u8 0, Go.Value.int Go.IntKind.u8 0, Go.Value.int Go.IntKind.u8 0, Go.Value.int Go.IntKind.u8 0, Go.Value.int Go.IntKind.u8 0, Go.Value.int Go.IntKind.u8 0, Go.Value.int Go.IntKind.u8 0, Go.Value.int Go.IntKind.u8 0, Go.Value.int Go.IntKind.u8 0, Go.Value.int Go.IntKind.u8 0, Go.Value.int Go.IntKind.u8 0, Go.Value.int Go.IntKind.u8 0, Go.Value.int Go.IntKind.u8 0, Go.Value.int Go.IntKind.u8 0, Go.Value.int Go.IntKind.u8 0, Go.Value.int Go.IntKind.u8 0, Go.Value.int Go.IntKind.u8 0, Go.Value.int Go.IntKind.u8 0, Go.Value.int Go.IntKind.u8 0, Go.Value.int Go.IntKind.u8 0, Go.Value.int Go.IntKind.u8 0, Go.Value.int Go.IntKind.u8 0, Go.Value.int Go.IntKind.u8 0, Go.Value.int Go.IntKind.u8 0, Go.Value.int Go.IntKind.i64 0, Go.Value.int Go.IntKind.i64 0, Go.Value.int Go.IntKind.i64 0, Go.Value.int Go.IntKind.i64 0, Go.Value.slice none 0 0, Go.Value.slice none 0 0]) := ⟨Tryz.zeroValue325⟩
instance ckz364 : TyZ Tryz.prog 364 (Go.Value.agg #[Go.Value.int Go.IntKind.i64 0, Go.Value.int Go.IntKind.i64 0]) := ⟨Tryz.zeroValue364⟩
instance ckz477 : TyZ Tryz.prog 477 (Go.Value.agg #[Go.Value.int Go.IntKind.i64 0, Go.Value.int Go.IntKind.i64 0]) := ⟨Tryz.zeroValue477⟩
instance ckz479 : TyZ Tryz.prog 479 (Go.Value.agg #[Go.Value.int Go.IntKind.i64 0, Go.Value.int Go.IntKind.i64 0, Go.Value.int Go.IntKind.i64 0, Go.Value.string { data := #[] }, Go.Value.string { data := #[] }]) := ⟨Tryz.zeroValue479⟩
instance ckz520 : TyZ Tryz.prog 520 (Go.Value.agg #[Go.Value.int Go.IntKind.u8 0, Go.Value.int Go.IntKind.u8 0, Go.Value.int Go.IntKind.u8 0, Go.Value.int Go.IntKind.u8 0, Go.Value.int Go.IntKind.u8 0, Go.Value.int Go.IntKind.u8 0, Go.Value.int Go.IntKind.u8 0, Go.Value.int Go.IntKind.u8 0, Go.Value.int Go.IntKind.u8 0, Go.Value.int Go.IntKind.u8 0, Go.Value.int Go.IntKind.u8 0, Go.Value.int Go.IntKind.u8 0, Go.Value.int Go.IntKind.u8 0, Go.Value.int Go.IntKind.u8 0, Go.Value.int Go.IntKind.u8 0, Go.Value.int Go.IntKind.u8 0]) := ⟨Tryz.zeroValue520⟩
instance ckz542 : TyZ Tryz.prog 542 (Go.Value.agg #[Go.Value.int Go.IntKind.u32 0, Go.Value.int Go.IntKind.u32 0, Go.Value.int Go.IntKind.u32 0, Go.Value.int Go.IntKind.u32 0, Go.Value.int Go.IntKind.u32 0, Go.Value.int Go.IntKind.u32 0, Go.Value.int Go.IntKind.u32 0, Go.Value.int Go.IntKind.u32 0, Go.Value.int Go.IntKind.u32 0, Go.Value.int Go.IntKind.u32 0, Go.Value.int Go.IntKind.u32 0, Go.Value.int Go.IntKind.u32 0, Go.Value.int Go.IntKind.u32 0, Go.Value.int Go.IntKind.u32 0, Go.Value.int Go.IntKind.u32 0, Go.Value.int Go.IntKind.u32 0]) := ⟨Tryz.zeroValue542⟩
instance ckz554 : TyZ Tryz.prog 554 (Go.Value.agg #[Go.Value.int Go.IntKind.u64 0, Go.Value.int Go.IntKind.u64 0, Go.Value.int Go.IntKind.u64 0, Go.Value.int Go.IntKind.u64 0, Go.Value.int Go.IntKind.u64 0]) := ⟨Tryz.zeroValue554⟩
instance ckz555 : TyZ Tryz.prog 555 (Go.Value.agg #[Go.Value.int Go.IntKind.u64 0, Go.Value.int Go.IntKind.u64 0, Go.Value.int Go.IntKind.u64 0, Go.Value.int Go.IntKind.u64 0, Go.Value.int Go.IntKind.u64 0]) := ⟨Tryz.zeroValue555⟩
instance ckz566 : TyZ Tryz.prog 566 (Go.Value.pointer none) := ⟨Tryz.zeroValue566⟩
instance ckz572 : TyZ Tryz.prog 572 (Go.Value.agg #[Go.Value.int Go.IntKind.u8 0, Go.Value.int Go.IntKind.u8 0, Go.Value.int Go.IntKind.u8 0, Go.Value.int Go.IntKind.u8 0, Go.Value.int Go.IntKind.u8 0, Go.Value.int Go.IntKind.u8 0, Go.Value.int Go.IntKind.u8 0, Go.Value.int Go.IntKind.u8 0, Go.Value.int Go.IntKind.u8 0, Go.Value.int Go.IntKind.u8 0, Go.Value.int Go.IntKind.u8 0, Go.Value.int Go.IntKind.u8 0, Go.Value.int Go.IntKind.u8 0, Go.Value.int Go.IntKind.u8 0, Go.Value.int Go.IntKind.u8 0, Go.Value.int Go.IntKind.u8 0, Go.Value.int Go.IntKind.u8 0]) := ⟨Tryz.zeroValue572⟩
instance ckz577 : TyZ Tryz.prog 577 (Go.Value.agg #[Go.Value.int Go.IntKind.i64 0, Go.Value.int Go.IntKind.i64 0, Go.Value.int Go.IntKind.i64 0, Go.Value.int Go.IntKind.i64 0]) := ⟨Tryz.zeroValue577⟩
instance ckb22 : TyB Tryz.prog 22 (Go.Value.slice none 0 0) 1 24 := ⟨by kernel_rfl⟩
instance ckb23 : TyB Tryz.prog 23 (Go.Value.slice none 0 0) 1 24 := ⟨by kernel_rfl⟩
instance ckb34 : TyB Tryz.prog 34 (Go.Value.slice none 0 0) 1 24 := ⟨by kernel_rfl⟩
instance ckb36 : TyB Tryz.prog 36 (Go.Value.agg #[Go.Value.int Go.IntKind.i64 0, Go.Value.int Go.IntKind.i64 0, Go.Value.int Go.IntKind.i64 0, Go.Value.int Go.IntKind.i64 0, Go.Value.int Go.IntKind.i64 0, Go.Value.string { data := #[] }, Go.Value.string { data := #[] }, Go.Value.slice none 0 0, Go.Value.string { data := #[] }]) 9 112 := ⟨by kernel_rfl⟩
instance ckb39 : TyB Tryz.prog 39 (Go.Value.agg #[Go.Value.int Go.IntKind.i64 0, Go.Value.int Go.IntKind.i64 0, Go.Value.slice none 0 0, Go.Value.slice none 0 0, Go.Value.int Go.IntKind.i64 0, Go.Value.int Go.IntKind.i64 0, Go.Value.int Go.IntKind.i64 0, Go.Value.slice none 0 0, Go.Value.slice none 0 0]) 9 136 := ⟨by kernel_rfl⟩
instance ckb60 : TyB Tryz.prog 60 (Go.Value.agg #[Go.Value.int Go.IntKind.i64 0, Go.Value.int Go.IntKind.i64 0, Go.Value.int Go.IntKind.i64 0, Go.Value.int Go.IntKind.i64 0, Go.Value.int Go.IntKind.i64 0, Go.Value.int Go.IntKind.i64 0, Go.Value.int Go.IntKind.i64 0]) 7 56 := ⟨by kernel_rfl⟩
instance ckb63 : TyB Tryz.prog 63 (Go.Value.agg #[Go.Value.int Go.IntKind.i64 0, Go.Value.int Go.IntKind.i64 0, Go.Value.int Go.IntKind.i64 0, Go.Value.int Go.IntKind.i64 0, Go.Value.int Go.IntKind.i64 0, Go.Value.int Go.IntKind.i64 0, Go.Value.int Go.IntKind.i64 0, Go.Value.int Go.IntKind.i64 0, Go.Value.bool false, Go.Value.int Go.IntKind.u8 0, Go.Value.int Go.IntKind.u8 0, Go.Value.int Go.IntKind.u8 0, Go.Value.int Go.IntKind.u8 0, Go.Value.int Go.IntKind.u8 0, Go.Value.int Go.IntKind.u8 0, Go.Value.int Go.IntKind.u8 0, Go.Value.int Go.IntKind.u8 0, Go.Value.int Go.IntKind.u8 0, Go.Value.int Go.IntKind.u8 0, Go.Value.int Go.IntKind.u8 0, Go.Value.int Go.IntKind.u8 0, Go.Value.int Go.IntKind.u8 0, Go.Value.int Go.IntKind.u8 0, Go.Value.int Go.IntKind.u8 0, Go.Value.int Go.IntKind.u8 0, Go.Value.int Go.IntKind.u8 0, Go.Value.int Go.IntKind.u8 0, Go.Value.int Go.IntKind.u8 0, Go.Value.int Go.IntKind.u8 0, Go.Value.int Go.IntKind.u8 0, Go.Value.int Go.IntKind.u8 0, Go.Value.int Go.IntKind.u8 0, Go.Value.int Go.IntKind.u8 0, Go.Value.int Go.IntKind.u8 0, Go.Value.int Go.IntKind.u8 0, Go.Value.int Go.IntKind.u8 0, Go.Value.int Go.IntKind.u8 0, Go.Value.int Go.IntKind.u8 0, Go.Value.int Go.IntKind.u8 0, Go.Value.int Go.IntKind.u8 0, Go.Value.int Go.IntKind.u8 0]) 41 104 := ⟨by kernel_rfl⟩
instance ckb80 : TyB Tryz.prog 80 (Go.Value.pointer none) 1 8 := ⟨by kernel_rfl⟩
instance ckb86 : TyB Tryz.prog 86 (Go.Value.slice none 0 0) 1 24 := ⟨by kernel_rfl⟩
instance ckb98 : TyB Tryz.prog 98 (Go.Value.slice none 0 0) 1 24 := ⟨by kernel_rfl⟩
instance ckb105 : TyB Tryz.prog 105 (Go.Value.pointer none) 1 8 := ⟨by kernel_rfl⟩
instance ckb112 : TyB Tryz.prog 112 (Go.Value.pointer none) 1 8 := ⟨by kernel_rfl⟩
instance ckb127 : TyB Tryz.prog 127 (Go.Value.agg #[Go.Value.int Go.IntKind.i64 0, Go.Value.int Go.IntKind.i64 0, Go.Value.int Go.IntKind.i64 0, Go.Value.int Go.IntKind.i64 0, Go.Value.int Go.IntKind.i64 0, Go.Value.int Go.IntKind.i64 0, Go.Value.int Go.IntKind.i64 0, Go.Value.int Go.IntKind.i64 0, Go.Value.int Go.IntKind.i64 0, Go.Value.int Go.IntKind.i64 0, Go.Value.int Go.IntKind.i64 0, Go.Value.int Go.IntKind.i64 0, Go.Value.int Go.IntKind.i64 0, Go.Value.int Go.IntKind.i64 0, Go.Value.int Go.IntKind.i64 0, Go.Value.int Go.IntKind.i64 0, Go.Value.int Go.IntKind.i64 0, Go.Value.int Go.IntKind.i64 0, Go.Value.int Go.IntKind.i64 0, Go.Value.slice none 0 0, Go.Value.bool false, Go.Value.slice none 0 0]) 22 208 := ⟨by kernel_rfl⟩
instance ckb164 : TyB Tryz.prog 164 (Go.Value.map none) 1 8 := ⟨by kernel_rfl⟩
instance ckb166 : TyB Tryz.prog 166 (Go.Value.agg #[Go.Value.int Go.IntKind.i64 0, Go.Value.pointer none, Go.Value.int Go.IntKind.i64 0, Go.Value.int Go.IntKind.i64 0, Go.Value.map none]) 5 40 := ⟨by kernel_rfl⟩
instance ckb174 : TyB Tryz.prog 174 (Go.Value.agg #[Go.Value.int Go.IntKind.u8 0, Go.Value.int Go.IntKind.u8 0, Go.Value.int Go.IntKind.u8 0, Go.Value.int Go.IntKind.u8 0, Go.Value.int Go.IntKind.u8 0, Go.Value.int Go.IntKind.u8 0, Go.Value.int Go.IntKind.u8 0, Go.Value.int Go.IntKind.u8 0, Go.Value.int Go.IntKind.u8 0, Go.Value.int Go.IntKind.u8 0, Go.Value.int Go.IntKind.u8 0, Go.Value.int Go.IntKind.u8 0, Go.Value.int Go.IntKind.u8 0, Go.Value.int Go.IntKind.u8 0, Go.Value.int Go.IntKind.u8 0, Go.Value.int Go.IntKind.u8 0, Go.Value.int Go.IntKind.u8 0, Go.Value.int Go.IntKind.u8 0, Go.Value.int Go.IntKind.u8 0, Go.Value.int Go.IntKind.u8 0, Go.Value.int Go.IntKind.u8 0, Go.Value.int Go.IntKind.u8 0, Go.Value.int Go.IntKind.u8 0, Go.Value.int Go.IntKind.u8 0, Go.Value.int Go.IntKind.u8 0, Go.Value.int Go.IntKind.u8 0, Go.Value.int Go.IntKind.u8 0, Go.Value.int Go.IntKind.u8 0, Go.Value.int Go.IntKind.u8 0, Go.Value.int Go.IntKind.u8 0, Go.Value.int Go.IntKind.u8 0, Go.Value.int Go.IntKind.u8 0]) 32 32 := ⟨by kernel_rfl⟩
instance ckb189 : TyB Tryz.prog 189 (Go.Value.slice none 0 0) 1 24 := ⟨by kernel_rfl⟩
instance ckb214 : TyB Tryz.prog 214 (Go.Value.map none) 1 8 := ⟨by kernel_rfl⟩
instance ckb215 : TyB Tryz.prog 215 (Go.Value.map none) 1 8 := ⟨by kernel_rfl⟩
instance ckb217 : TyB Tryz.prog 217 (Go.Value.agg #[Go.Value.bool false, Go.Value.int Go.IntKind.u8 0, Go.Value.int Go.IntKind.u8 0, Go.Value.int Go.IntKind.u8 0, Go.Value.int Go.IntKind.u8 0, Go.Value.int Go.IntKind.u8 0, Go.Value.int Go.IntKind.u8 0, Go.Value.int Go.IntKind.u8 0, Go.Value.int Go.IntKind.u8 0, Go.Value.int Go.IntKind.u8 0, Go.Value.int Go.IntKind.u8 0, Go.Value.int Go.IntKind.u8 0, Go.Value.int Go.IntKind.u8 0, Go.Value.int Go.IntKind.u8 0, Go.Value.int Go.IntKind.u8 0, Go.Value.int Go.IntKind.u8 0, Go.Value.int Go.IntKind.u8 0, Go.Value.int Go.IntKind.u8 0, Go.Value.int Go.IntKind.u8 0, Go.Value.int Go.IntKind.u8 0, Go.Value.int Go.IntKind.u8 0, Go.Value.int Go.IntKind.u8 0, Go.Value.int Go.IntKind.u8 0, Go.Value.int Go.IntKind.u8 0, Go.Value.int Go.IntKind.u8 0, Go.Value.int Go.IntKind.u8 0, Go.Value.int Go.IntKind.u8 0, Go.Value.int Go.IntKind.u8 0, Go.Value.int Go.IntKind.u8 0, Go.Value.int Go.IntKind.u8 0, Go.Value.int Go.IntKind.u8 0, Go.Value.int Go.IntKind.u8 0, Go.Value.int Go.IntKind.u8 0, Go.Value.map none, Go.Value.map none, Go.Value.map none]) 36 64 := ⟨by kernel_rfl⟩
instance ckb323 : TyB Tryz.prog 323 (Go.Value.agg #[Go.Value.int Go.IntKind.i64 0, Go.Value.int Go.IntKind.i64 0, Go.Value.int Go.IntKind.i64 0, Go.Value.int Go.IntKind.i64 0, Go.Value.slice none 0 0]) 5 56 := ⟨by kernel_rfl⟩
instance ckb325 : TyB Tryz.prog 325 (Go.Value.agg #[Go.Value.int Go.IntKind.u8 0, Go.Value.int Go.IntKind.u8 0, Go.Value.int Go.IntKind.u8 0, Go.Value.int Go.IntKind.u8 0, Go.Value.int Go.IntKind.u8 0, Go.Value.int Go.IntKind.u8 0, Go.Value.int Go.IntKind.u8 0, Go.Value.int Go.IntKind.u8 0, Go.Value.int Go.IntKind.u8 0, Go.Value.int Go.IntKind.u8 0, Go.Value.int Go.IntKind.u8 0, Go.Value.int Go.IntKind.u8 0, Go.Value.int Go.IntKind.u8 0, Go.Value.int Go.IntKind.u8 0, Go.Value.int Go.IntKind.u8 0, Go.Value.int Go.IntKind.u8 0, Go.Value.int Go.IntKind.u8 0, Go.Value.int Go.IntKind.u8 0, Go.Value.int Go.IntKind.u8 0, Go.Value.int Go.IntKind.u8 0, Go.Value.int Go.IntKind.u8 0, Go.Value.int Go.IntKind.u8 0, Go.Value.int Go.IntKind.u8 0, Go.Value.int Go.IntKind.u8 0, Go.Value.int Go.IntKind.u8 0, Go.Value.int Go.IntKind.u8 0, Go.Value.int Go.IntKind.u8 0, Go.Value.int Go.IntKind.u8 0, Go.Value.int Go.IntKind.u8 0, Go.Value.int Go.IntKind.u8 0, Go.Value.int Go.IntKind.u8 0, Go.Value.int Go.IntKind.u8 0, Go.Value.int Go.IntKind.i64 0, Go.Value.int Go.IntKind.i64 0, Go.Value.int Go.IntKind.i64 0, Go.Value.int Go.IntKind.i64 0, Go.Value.slice none 0 0, Go.Value.slice none 0 0]) 38 112 := ⟨by kernel_rfl⟩
instance ckb364 : TyB Tryz.prog 364 (Go.Value.agg #[Go.Value.int Go.IntKind.i64 0, Go.Value.int Go.IntKind.i64 0]) 2 16 := ⟨by kernel_rfl⟩
instance ckb477 : TyB Tryz.prog 477 (Go.Value.agg #[Go.Value.int Go.IntKind.i64 0, Go.Value.int Go.IntKind.i64 0]) 2 16 := ⟨by kernel_rfl⟩
instance ckb479 : TyB Tryz.prog 479 (Go.Value.agg #[Go.Value.int Go.IntKind.i64 0, Go.Value.int Go.IntKind.i64 0, Go.Value.int Go.IntKind.i64 0, Go.Value.string { data := #[] }, Go.Value.string { data := #[] }]) 5 56 := ⟨by kernel_rfl⟩
instance ckb520 : TyB Tryz.prog 520 (Go.Value.agg #[Go.Value.int Go.IntKind.u8 0, Go.Value.int Go.IntKind.u8 0, Go.Value.int Go.IntKind.u8 0, Go.Value.int Go.IntKind.u8 0, Go.Value.int Go.IntKind.u8 0, Go.Value.int Go.IntKind.u8 0, Go.Value.int Go.IntKind.u8 0, Go.Value.int Go.IntKind.u8 0, Go.Value.int Go.IntKind.u8 0, Go.Value.int Go.IntKind.u8 0, Go.Value.int Go.IntKind.u8 0, Go.Value.int Go.IntKind.u8 0, Go.Value.int Go.IntKind.u8 0, Go.Value.int Go.IntKind.u8 0, Go.Value.int Go.IntKind.u8 0, Go.Value.int Go.IntKind.u8 0]) 16 16 := ⟨by kernel_rfl⟩
instance ckb542 : TyB Tryz.prog 542 (Go.Value.agg #[Go.Value.int Go.IntKind.u32 0, Go.Value.int Go.IntKind.u32 0, Go.Value.int Go.IntKind.u32 0, Go.Value.int Go.IntKind.u32 0, Go.Value.int Go.IntKind.u32 0, Go.Value.int Go.IntKind.u32 0, Go.Value.int Go.IntKind.u32 0, Go.Value.int Go.IntKind.u32 0, Go.Value.int Go.IntKind.u32 0, Go.Value.int Go.IntKind.u32 0, Go.Value.int Go.IntKind.u32 0, Go.Value.int Go.IntKind.u32 0, Go.Value.int Go.IntKind.u32 0, Go.Value.int Go.IntKind.u32 0, Go.Value.int Go.IntKind.u32 0, Go.Value.int Go.IntKind.u32 0]) 16 64 := ⟨by kernel_rfl⟩
instance ckb554 : TyB Tryz.prog 554 (Go.Value.agg #[Go.Value.int Go.IntKind.u64 0, Go.Value.int Go.IntKind.u64 0, Go.Value.int Go.IntKind.u64 0, Go.Value.int Go.IntKind.u64 0, Go.Value.int Go.IntKind.u64 0]) 5 40 := ⟨by kernel_rfl⟩
instance ckb555 : TyB Tryz.prog 555 (Go.Value.agg #[Go.Value.int Go.IntKind.u64 0, Go.Value.int Go.IntKind.u64 0, Go.Value.int Go.IntKind.u64 0, Go.Value.int Go.IntKind.u64 0, Go.Value.int Go.IntKind.u64 0]) 5 40 := ⟨by kernel_rfl⟩
instance ckb566 : TyB Tryz.prog 566 (Go.Value.pointer none) 1 8 := ⟨by kernel_rfl⟩
instance ckb572 : TyB Tryz.prog 572 (Go.Value.agg #[Go.Value.int Go.IntKind.u8 0, Go.Value.int Go.IntKind.u8 0, Go.Value.int Go.IntKind.u8 0, Go.Value.int Go.IntKind.u8 0, Go.Value.int Go.IntKind.u8 0, Go.Value.int Go.IntKind.u8 0, Go.Value.int Go.IntKind.u8 0, Go.Value.int Go.IntKind.u8 0, Go.Value.int Go.IntKind.u8 0, Go.Value.int Go.IntKind.u8 0, Go.Value.int Go.IntKind.u8 0, Go.Value.int Go.IntKind.u8 0, Go.Value.int Go.IntKind.u8 0, Go.Value.int Go.IntKind.u8 0, Go.Value.int Go.IntKind.u8 0, Go.Value.int Go.IntKind.u8 0, Go.Value.int Go.IntKind.u8 0]) 17 17 := ⟨by kernel_rfl⟩
instance ckb577 : TyB Tryz.prog 577 (Go.Value.agg #[Go.Value.int Go.IntKind.i64 0, Go.Value.int Go.IntKind.i64 0, Go.Value.int Go.IntKind.i64 0, Go.Value.int Go.IntKind.i64 0]) 4 32 := ⟨by kernel_rfl⟩
instance ckp36 : TyP Tryz.prog 36 [(0, 1), (1, 1), (2, 1), (3, 1), (4, 1), (5, 1), (6, 1), (7, 1), (8, 1)] := ⟨_, Tryz.underlying36, fun w => by simp [Tryz.sizeOf3, Tryz.sizeOf9, Tryz.sizeOf34]⟩
instance ckp39 : TyP Tryz.prog 39 [(0, 1), (1, 1), (2, 1), (3, 1), (4, 1), (5, 1), (6, 1), (7, 1), (8, 1)] := ⟨_, Tryz.underlying39, fun w => by simp [Tryz.sizeOf3, Tryz.sizeOf28, Tryz.sizeOf34]⟩
instance ckp60 : TyP Tryz.prog 60 [(0, 1), (1, 1), (2, 1), (3, 1), (4, 1), (5, 1), (6, 1)] := ⟨_, Tryz.underlying60, fun w => by simp [Tryz.sizeOf3]⟩
instance ckp63 : TyP Tryz.prog 63 [(0, 7), (7, 1), (8, 1), (9, 32)] := ⟨_, Tryz.underlying63, fun w => by simp [Tryz.sizeOf3, Tryz.sizeOf4, Tryz.sizeOf60, Tryz.sizeOf61]⟩
instance ckp127 : TyP Tryz.prog 127 [(0, 2), (2, 1), (3, 17), (20, 1), (21, 1)] := ⟨_, Tryz.underlying127, fun w => by simp [Tryz.sizeOf3, Tryz.sizeOf4, Tryz.sizeOf28, Tryz.sizeOf121, Tryz.sizeOf125]⟩
instance ckp166 : TyP Tryz.prog 166 [(0, 1), (1, 1), (2, 1), (3, 1), (4, 1)] := ⟨_, Tryz.underlying166, fun w => by simp [Tryz.sizeOf3, Tryz.sizeOf105, Tryz.sizeOf164]⟩
instance ckp217 : TyP Tryz.prog 217 [(0, 1), (1, 32), (33, 1), (34, 1), (35, 1)] := ⟨_, Tryz.underlying217, fun w => by simp [Tryz.sizeOf4, Tryz.sizeOf61, Tryz.sizeOf164, Tryz.sizeOf214, Tryz.sizeOf215]⟩
instance ckp323 : TyP Tryz.prog 323 [(0, 1), (1, 1), (2, 2), (4, 1)] := ⟨_, Tryz.underlying323, fun w => by simp [Tryz.sizeOf3, Tryz.sizeOf28, Tryz.sizeOf121]⟩
instance ckp325 : TyP Tryz.prog 325 [(0, 32), (32, 5), (37, 1)] := ⟨_, Tryz.underlying325, fun w => by simp [Tryz.sizeOf28, Tryz.sizeOf174, Tryz.sizeOf323]⟩
instance ckp477 : TyP Tryz.prog 477 [(0, 1), (1, 1)] := ⟨_, Tryz.underlying477, fun w => by simp [Tryz.sizeOf3]⟩
instance ckp479 : TyP Tryz.prog 479 [(0, 2), (2, 1), (3, 1), (4, 1)] := ⟨_, Tryz.underlying479, fun w => by simp [Tryz.sizeOf3, Tryz.sizeOf9, Tryz.sizeOf477]⟩
instance ckg39 : TyG Tryz.prog 39 := ⟨Tryz.eqGuardType39⟩
instance ckg36 : TyG Tryz.prog 36 := ⟨Tryz.eqGuardType36⟩
instance ckg520 : TyG Tryz.prog 520 := ⟨Tryz.eqGuardType520⟩
instance ckg572 : TyG Tryz.prog 572 := ⟨Tryz.eqGuardType572⟩
instance ckg555 : TyG Tryz.prog 555 := ⟨Tryz.eqGuardType555⟩
instance ckg217 : TyG Tryz.prog 217 := ⟨Tryz.eqGuardType217⟩
instance ckg166 : TyG Tryz.prog 166 := ⟨Tryz.eqGuardType166⟩
instance ckg325 : TyG Tryz.prog 325 := ⟨Tryz.eqGuardType325⟩
instance ckg323 : TyG Tryz.prog 323 := ⟨Tryz.eqGuardType323⟩
instance ckg63 : TyG Tryz.prog 63 := ⟨Tryz.eqGuardType63⟩
instance ckg364 : TyG Tryz.prog 364 := ⟨Tryz.eqGuardType364⟩
instance ckg554 : TyG Tryz.prog 554 := ⟨Tryz.eqGuardType554⟩
instance ckg479 : TyG Tryz.prog 479 := ⟨Tryz.eqGuardType479⟩
instance ckg542 : TyG Tryz.prog 542 := ⟨Tryz.eqGuardType542⟩
instance ckg577 : TyG Tryz.prog 577 := ⟨Tryz.eqGuardType577⟩
instance ckg174 : TyG Tryz.prog 174 := ⟨Tryz.eqGuardType174⟩
instance ckg477 : TyG Tryz.prog 477 := ⟨Tryz.eqGuardType477⟩
instance ckg127 : TyG Tryz.prog 127 := ⟨Tryz.eqGuardType127⟩
instance ckg60 : TyG Tryz.prog 60 := ⟨Tryz.eqGuardType60⟩
end Go.Proofs.YtndpclcbobgdlaaGreatDoor
end

section
namespace Go.Proofs.YtndpclcbobgdlaaGreatDoor
open Go Go.Ck
set_option maxHeartbeats 4000000
def TaR (a : Ta) : Prop := (0 ≤ a.handle ∧ a.handle ≤ 4611686018427387904) ∧ (0 ≤ a.box ∧ a.box ≤ 4611686018427387904) ∧ (0 ≤ a.k ∧ a.k ≤ 4611686018427387904) ∧ (0 ≤ a.kind ∧ a.kind ≤ 255) ∧ (0 ≤ a.client ∧ a.client ≤ 255) ∧
  a.name.length ≤ 255 ∧ a.value.length ≤ 65536 ∧ a.stay.length ≤ 1000 ∧ a.raw.length ≤ 65536
instance (a : Ta) : Decidable (TaR a) := by unfold TaR; exact inferInstance
theorem TaOk.r {a : Ta} (h : TaOk a) : TaR a := ⟨h.handle, h.box, h.k, h.kind, h.client, h.name.1, h.value.1, h.stay, h.raw.1⟩
theorem TaR.ok {a : Ta} (h : TaR a) (hn : Bytes a.name) (hv : Bytes a.value) (hr : Bytes a.raw) : TaOk a :=
  ⟨h.2.2.2.1, h.2.2.2.2.1, h.1, h.2.1, h.2.2.1, ⟨h.2.2.2.2.2.1, hn⟩, ⟨h.2.2.2.2.2.2.1, hv⟩, h.2.2.2.2.2.2.2.1, ⟨h.2.2.2.2.2.2.2.2, hr⟩⟩
theorem twithin_sp (n b : Int) (h : View) (w : World) (s : St ⟨w, h, []⟩ h [] w) :
    Calls Tryz.prog 36 [.int .i64 n, .int .i64 b].toArray w fun e w' => e = .returned (.bool (decide (0 ≤ n ∧ n ≤ b))) ∧ St ⟨w, h, []⟩ h [] w' := by
  refine calls_enter Tryz.func36 rfl Tryz.ntmps36 rfl s ?_
  by_cases h1 : 0 ≤ n
  · by_cases h2 : n ≤ b
    · have e : decide (0 ≤ n ∧ n ≤ b) = true := by simp [h1, h2]
      rw [e]
      repeat' (first|(refine ycf ?_;apply ybk;(·first|(exact tk_));(·rfl);(·rfl))|refine t1_ ?_|(refine ta_ ?_;intro _)|((fail_if_success (refine ybi rfl ?_));refine ybj rfl ?_ ?_<;>(intro ht;rw [ht];first|replace ht := oet_ ht|replace ht := oef_ ht|skip))|(refine ych ?_;first|(refine ybw rfl ?_ ?_<;>intro ht)|(refine ybx rfl ?_ ?_<;>intro ht)))
      exact nx_ret1 rfl (rv_tmp rfl) (fun w' s' => ⟨rfl, s'⟩)
    · have e : decide (0 ≤ n ∧ n ≤ b) = false := by simp [h2]
      rw [e]
      repeat' (first|(refine ycf ?_;apply ybk;(·first|(exact tk_));(·rfl);(·rfl))|refine t1_ ?_|(refine ta_ ?_;intro _)|((fail_if_success (refine ybi rfl ?_));refine ybj rfl ?_ ?_<;>(intro ht;rw [ht];first|replace ht := oet_ ht|replace ht := oef_ ht|skip))|(refine ych ?_;first|(refine ybw rfl ?_ ?_<;>intro ht)|(refine ybx rfl ?_ ?_<;>intro ht)))
      exact nx_ret1 rfl (rv_tmp rfl) (fun w' s' => ⟨rfl, s'⟩)
  · have e : decide (0 ≤ n ∧ n ≤ b) = false := by simp [h1]
    rw [e]
    repeat' (first|(refine ycf ?_;apply ybk;(·first|(exact tk_));(·rfl);(·rfl))|refine t1_ ?_|(refine ta_ ?_;intro _)|((fail_if_success (refine ybi rfl ?_));refine ybj rfl ?_ ?_<;>(intro ht;rw [ht];first|replace ht := oet_ ht|replace ht := oef_ ht|skip))|(refine ych ?_;first|(refine ybw rfl ?_ ?_<;>intro ht)|(refine ybx rfl ?_ ?_<;>intro ht)))
    exact nx_ret1 rfl (rv_tmp rfl) (fun w' s' => ⟨rfl, s'⟩)
def i3 (a b c : Int) : List Value := [.int .i64 a, .int .i64 b, .int .i64 c]
theorem right_sp3 (x : Ts) (h : View) (hx : Tsv h x) (w : World) (s : St ⟨w, h, []⟩ h [] w) :
    Calls Tryz.prog 20 [.agg (tsc x).toArray].toArray w fun e w' => e = .returned (.bool (decide (TaR x.a))) ∧ St ⟨w, h, []⟩ h [] w' := by
  obtain ⟨⟨ki, cl, ha, bo, kk, nm, va, st, ra⟩, nv, vv, sv, rv⟩ := x
  obtain ⟨g1, g2, g3, g4⟩ := hx
  dsimp only at g1 g2 g3 g4
  obtain ⟨_, adn, capn, rfl, _, _⟩ := id g1
  obtain ⟨_, adv, capv, rfl, _, _⟩ := id g2
  obtain ⟨_, ads, caps, rfl, _, _⟩ := id g3
  obtain ⟨_, adr, capr, rfl, _, _⟩ := id g4
  have e : decide (TaR ⟨ki, cl, ha, bo, kk, nm, va, st, ra⟩) = (decide (0 ≤ ha ∧ ha ≤ 4611686018427387904) && (decide (0 ≤ bo ∧ bo ≤ 4611686018427387904) && (decide (0 ≤ kk ∧ kk ≤ 4611686018427387904) && (decide (0 ≤ ki ∧ ki ≤ 255) && (decide (0 ≤ cl ∧ cl ≤ 255) &&
      (decide ((nm.length : Int) ≤ 255) && (decide ((va.length : Int) ≤ 65536) && (decide ((st.length : Int) ≤ 1000) && decide ((ra.length : Int) ≤ 65536))))))))) := by
    rw [Bool.eq_iff_iff]
    simp only [decide_eq_true_eq, Bool.and_eq_true]
    unfold TaR
    dsimp only
    constructor
    · rintro ⟨a, b, c, d, e, f, g, i, j⟩; exact ⟨a, b, c, d, e, by omega, by omega, by omega, by omega⟩
    · rintro ⟨a, b, c, d, e, f, g, i, j⟩; exact ⟨a, b, c, d, e, by omega, by omega, by omega, by omega⟩
  rw [e]
  have W1 := twithin_sp ha 4611686018427387904 h
  have W2 := twithin_sp bo 4611686018427387904 h
  have W3 := twithin_sp kk 4611686018427387904 h
  have W4 := twithin_sp ki 255 h
  have W5 := twithin_sp cl 255 h
  generalize decide (0 ≤ ha ∧ ha ≤ 4611686018427387904) = b1 at W1 ⊢
  generalize decide (0 ≤ bo ∧ bo ≤ 4611686018427387904) = b2 at W2 ⊢
  generalize decide (0 ≤ kk ∧ kk ≤ 4611686018427387904) = b3 at W3 ⊢
  generalize decide (0 ≤ ki ∧ ki ≤ 255) = b4 at W4 ⊢
  generalize decide (0 ≤ cl ∧ cl ≤ 255) = b5 at W5 ⊢
  refine calls_enter Tryz.func20 rfl Tryz.ntmps20 rfl s ?_
  repeat' (first|(refine ycf ?_;apply ybk;(·first|(exact tk_));(·rfl);(·rfl))|refine t1_ ?_|(refine ta_ ?_;intro _)|((fail_if_success (refine ybi rfl ?_));refine ybj rfl ?_ ?_<;>(intro ht;rw [ht];first|replace ht := oet_ ht|replace ht := oef_ ht|skip))|(refine ych ?_;first|(refine ybw rfl ?_ ?_<;>intro ht)|(refine ybx rfl ?_ ?_<;>intro ht)))
  rename_i b1' b11
  refine cx_loop (X := Nat) (fun y => [(1, .pointer (some ⟨b1', 0, none⟩)), (11, .slice (some ⟨b11, 0, none⟩) 3 3), (12, .int .i64 3), (13, .int .i64 (y : Nat))]) (fun _ => h)
    (fun y => [Res.blk b11 (.cells (i3 ha bo kk).toArray 3 (0, 0)), Res.blk b1' (.cells (tsc ⟨⟨ki, cl, ha, bo, kk, nm, va, st, ra⟩, .slice adn nm.length capn, .slice adv va.length capv, .slice ads st.length caps, .slice adr ra.length capr⟩).toArray 39 (0, 0))])
    (fun y => y ≤ 3 ∧ (1 ≤ y → b1 = true) ∧ (2 ≤ y → b2 = true) ∧ (3 ≤ y → b3 = true)) (fun y => 3 - y) 0 ⟨by omega, by omega, by omega, by omega⟩ ts_ (fun _ s => s) ?_
  rintro k ⟨q0, q1, q2, q3⟩
  rcases (by omega : k = 0 ∨ k = 1 ∨ k = 2 ∨ k = 3) with rfl | rfl | rfl | rfl
  · --(exact tk_):= (exact tk_)
    repeat' (first|(refine ycf ?_;apply ybk;(·first|(exact tk_));(·rfl);(·rfl))|refine t1_ ?_|(refine ta_ ?_;intro _)|((fail_if_success (refine ybi rfl ?_));refine ybj rfl ?_ ?_<;>(intro ht;rw [ht];first|replace ht := oet_ ht|replace ht := oef_ ht|skip))|(refine ych ?_;first|(refine ybw rfl ?_ ?_<;>intro ht)|(refine ybx rfl ?_ ?_<;>intro ht)))
    (refine ycn (ycp Tryz.func36 rfl (by kernel_rfl) rfl) (W1) rfl rfl rfl ?_ ?_; (· (exact to_)))
    cases b1
    · repeat' (first|(refine ycf ?_;apply ybk;(·first|(exact tk_));(·rfl);(·rfl))|refine t1_ ?_|(refine ta_ ?_;intro _)|((fail_if_success (refine ybi rfl ?_));refine ybj rfl ?_ ?_<;>(intro ht;rw [ht];first|replace ht := oet_ ht|replace ht := oef_ ht|skip))|(refine ych ?_;first|(refine ybw rfl ?_ ?_<;>intro ht)|(refine ybx rfl ?_ ?_<;>intro ht)))
      exact nx_ret1 rfl (rv_tmp rfl) (fun w' s' => ⟨rfl, s'.nil⟩)
    repeat' (first|(refine ycf ?_;apply ybk;(·first|(exact tk_));(·rfl);(·rfl))|refine t1_ ?_|(refine ta_ ?_;intro _)|((fail_if_success (refine ybi rfl ?_));refine ybj rfl ?_ ?_<;>(intro ht;rw [ht];first|replace ht := oet_ ht|replace ht := oef_ ht|skip))|(refine ych ?_;first|(refine ybw rfl ?_ ?_<;>intro ht)|(refine ybx rfl ?_ ?_<;>intro ht)))
    exact nx_round 1 ⟨by omega, fun _ => rfl, by omega, by omega⟩ (by decide) ts_ (fun _ s => s)
  · repeat' (first|(refine ycf ?_;apply ybk;(·first|(exact tk_));(·rfl);(·rfl))|refine t1_ ?_|(refine ta_ ?_;intro _)|((fail_if_success (refine ybi rfl ?_));refine ybj rfl ?_ ?_<;>(intro ht;rw [ht];first|replace ht := oet_ ht|replace ht := oef_ ht|skip))|(refine ych ?_;first|(refine ybw rfl ?_ ?_<;>intro ht)|(refine ybx rfl ?_ ?_<;>intro ht)))
    (refine ycn (ycp Tryz.func36 rfl (by kernel_rfl) rfl) (W2) rfl rfl rfl ?_ ?_; (· (exact to_)))
    cases b2
    · repeat' (first|(refine ycf ?_;apply ybk;(·first|(exact tk_));(·rfl);(·rfl))|refine t1_ ?_|(refine ta_ ?_;intro _)|((fail_if_success (refine ybi rfl ?_));refine ybj rfl ?_ ?_<;>(intro ht;rw [ht];first|replace ht := oet_ ht|replace ht := oef_ ht|skip))|(refine ych ?_;first|(refine ybw rfl ?_ ?_<;>intro ht)|(refine ybx rfl ?_ ?_<;>intro ht)))
      refine nx_ret1 rfl (rv_tmp rfl) (fun w' s' => ⟨?_, s'.nil⟩)
      rw [q1 (by omega)]; rfl
    repeat' (first|(refine ycf ?_;apply ybk;(·first|(exact tk_));(·rfl);(·rfl))|refine t1_ ?_|(refine ta_ ?_;intro _)|((fail_if_success (refine ybi rfl ?_));refine ybj rfl ?_ ?_<;>(intro ht;rw [ht];first|replace ht := oet_ ht|replace ht := oef_ ht|skip))|(refine ych ?_;first|(refine ybw rfl ?_ ?_<;>intro ht)|(refine ybx rfl ?_ ?_<;>intro ht)))
    exact nx_round 2 ⟨by omega, fun _ => q1 (by omega), fun _ => rfl, by omega⟩ (by decide) ts_ (fun _ s => s)
  · repeat' (first|(refine ycf ?_;apply ybk;(·first|(exact tk_));(·rfl);(·rfl))|refine t1_ ?_|(refine ta_ ?_;intro _)|((fail_if_success (refine ybi rfl ?_));refine ybj rfl ?_ ?_<;>(intro ht;rw [ht];first|replace ht := oet_ ht|replace ht := oef_ ht|skip))|(refine ych ?_;first|(refine ybw rfl ?_ ?_<;>intro ht)|(refine ybx rfl ?_ ?_<;>intro ht)))
    (refine ycn (ycp Tryz.func36 rfl (by kernel_rfl) rfl) (W3) rfl rfl rfl ?_ ?_; (· (exact to_)))
    cases b3
    · repeat' (first|(refine ycf ?_;apply ybk;(·first|(exact tk_));(·rfl);(·rfl))|refine t1_ ?_|(refine ta_ ?_;intro _)|((fail_if_success (refine ybi rfl ?_));refine ybj rfl ?_ ?_<;>(intro ht;rw [ht];first|replace ht := oet_ ht|replace ht := oef_ ht|skip))|(refine ych ?_;first|(refine ybw rfl ?_ ?_<;>intro ht)|(refine ybx rfl ?_ ?_<;>intro ht)))
      refine nx_ret1 rfl (rv_tmp rfl) (fun w' s' => ⟨?_, s'.nil⟩)
      rw [q1 (by omega), q2 (by omega)]; rfl
    repeat' (first|(refine ycf ?_;apply ybk;(·first|(exact tk_));(·rfl);(·rfl))|refine t1_ ?_|(refine ta_ ?_;intro _)|((fail_if_success (refine ybi rfl ?_));refine ybj rfl ?_ ?_<;>(intro ht;rw [ht];first|replace ht := oet_ ht|replace ht := oef_ ht|skip))|(refine ych ?_;first|(refine ybw rfl ?_ ?_<;>intro ht)|(refine ybx rfl ?_ ?_<;>intro ht)))
    exact nx_round 3 ⟨by omega, fun _ => q1 (by omega), fun _ => q2 (by omega), fun _ => rfl⟩ (by decide) ts_ (fun _ s => s)
  · rw [q1 (by omega), q2 (by omega), q3 (by omega)]
    repeat' (first|(refine ycf ?_;apply ybk;(·first|(exact tk_));(·rfl);(·rfl))|refine t1_ ?_|(refine ta_ ?_;intro _)|((fail_if_success (refine ybi rfl ?_));refine ybj rfl ?_ ?_<;>(intro ht;rw [ht];first|replace ht := oet_ ht|replace ht := oef_ ht|skip))|(refine ych ?_;first|(refine ybw rfl ?_ ?_<;>intro ht)|(refine ybx rfl ?_ ?_<;>intro ht)))
    (refine ycn (ycp Tryz.func36 rfl (by kernel_rfl) rfl) (W4) rfl rfl rfl ?_ ?_; (· (exact to_)))
    cases b4
    · repeat' (first|(refine ycf ?_;apply ybk;(·first|(exact tk_));(·rfl);(·rfl))|refine t1_ ?_|(refine ta_ ?_;intro _)|((fail_if_success (refine ybi rfl ?_));refine ybj rfl ?_ ?_<;>(intro ht;rw [ht];first|replace ht := oet_ ht|replace ht := oef_ ht|skip))|(refine ych ?_;first|(refine ybw rfl ?_ ?_<;>intro ht)|(refine ybx rfl ?_ ?_<;>intro ht)))
      exact nx_ret1 rfl (rv_tmp rfl) (fun w' s' => ⟨rfl, s'.nil⟩)
    repeat' (first|(refine ycf ?_;apply ybk;(·first|(exact tk_));(·rfl);(·rfl))|refine t1_ ?_|(refine ta_ ?_;intro _)|((fail_if_success (refine ybi rfl ?_));refine ybj rfl ?_ ?_<;>(intro ht;rw [ht];first|replace ht := oet_ ht|replace ht := oef_ ht|skip))|(refine ych ?_;first|(refine ybw rfl ?_ ?_<;>intro ht)|(refine ybx rfl ?_ ?_<;>intro ht)))
    (refine ycn (ycp Tryz.func36 rfl (by kernel_rfl) rfl) (W5) rfl rfl rfl ?_ ?_; (· (exact to_)))
    cases b5
    · repeat' (first|(refine ycf ?_;apply ybk;(·first|(exact tk_));(·rfl);(·rfl))|refine t1_ ?_|(refine ta_ ?_;intro _)|((fail_if_success (refine ybi rfl ?_));refine ybj rfl ?_ ?_<;>(intro ht;rw [ht];first|replace ht := oet_ ht|replace ht := oef_ ht|skip))|(refine ych ?_;first|(refine ybw rfl ?_ ?_<;>intro ht)|(refine ybx rfl ?_ ?_<;>intro ht)))
      exact nx_ret1 rfl (rv_tmp rfl) (fun w' s' => ⟨rfl, s'.nil⟩)
    repeat' (first|(refine ycf ?_;apply ybk;(·first|(exact tk_));(·rfl);(·rfl))|refine t1_ ?_|(refine ta_ ?_;intro _)|((fail_if_success (refine ybi rfl ?_));refine ybj rfl ?_ ?_<;>(intro ht;rw [ht];first|replace ht := oet_ ht|replace ht := oef_ ht|skip))|(refine ych ?_;first|(refine ybw rfl ?_ ?_<;>intro ht)|(refine ybx rfl ?_ ?_<;>intro ht)))
    all_goals exact nx_ret1 rfl (rv_tmp rfl) (fun w' s' => ⟨by simp [*], s'.nil⟩)
theorem flag_sp (bo : Nat) (v : Value) (l : List Int) (b : Bool) (hl : l.length ≤ 1000000) (h : View) (w : World) (s : St ⟨w, h, doms [outR bo v false, rowB v l]⟩ h [outR bo v false, rowB v l] w) :
    Calls Tryz.prog 39 [.pointer (some ⟨bo, 0, none⟩), .bool b].toArray w fun e w' => ∃ x : Value, e = .returned (.tuple #[]) ∧ St ⟨w, h, doms [outR bo v false, rowB v l]⟩ h [outR bo x false, rowB x (l ++ num1 (flagI b))] w' ∧ True := by
  refine calls_enter Tryz.func39 rfl Tryz.ntmps39 rfl s ?_
  cases b with
  | true =>
    repeat' (first|(refine ycf ?_;apply ybk;(·first|(exact tk_));(·rfl);(·rfl))|refine t1_ ?_|(refine ta_ ?_;intro _)|((fail_if_success (refine ybi rfl ?_));refine ybj rfl ?_ ?_<;>(intro ht;rw [ht];first|replace ht := oet_ ht|replace ht := oef_ ht|skip))|(refine ych ?_;first|(refine ybw rfl ?_ ?_<;>intro ht)|(refine ybx rfl ?_ ?_<;>intro ht)))
    (refine rx_call_2 (ycp Tryz.func37 rfl (by kernel_rfl) rfl) (OutSmall_sp bo v l false 1 (by omega) (by omega) hl h) rfl rfl rfl ?_ ?_ ?_; (· (exact to_)); (· intro _ _ hle; (exact to_)); intro x px hle)
    repeat' (first|(refine ycf ?_;apply ybk;(·first|(exact tk_));(·rfl);(·rfl))|refine t1_ ?_|(refine ta_ ?_;intro _)|((fail_if_success (refine ybi rfl ?_));refine ybj rfl ?_ ?_<;>(intro ht;rw [ht];first|replace ht := oet_ ht|replace ht := oef_ ht|skip))|(refine ych ?_;first|(refine ybw rfl ?_ ?_<;>intro ht)|(refine ybx rfl ?_ ?_<;>intro ht)))
    exact nx_end0 rfl (fun w' s' => ⟨x, rfl, s', trivial⟩)
  | false =>
    repeat' (first|(refine ycf ?_;apply ybk;(·first|(exact tk_));(·rfl);(·rfl))|refine t1_ ?_|(refine ta_ ?_;intro _)|((fail_if_success (refine ybi rfl ?_));refine ybj rfl ?_ ?_<;>(intro ht;rw [ht];first|replace ht := oet_ ht|replace ht := oef_ ht|skip))|(refine ych ?_;first|(refine ybw rfl ?_ ?_<;>intro ht)|(refine ybx rfl ?_ ?_<;>intro ht)))
    (refine rx_call_2 (ycp Tryz.func37 rfl (by kernel_rfl) rfl) (OutSmall_sp bo v l false 0 (by omega) (by omega) hl h) rfl rfl rfl ?_ ?_ ?_; (· (exact to_)); (· intro _ _ hle; (exact to_)); intro x px hle)
    repeat' (first|(refine ycf ?_;apply ybk;(·first|(exact tk_));(·rfl);(·rfl))|refine t1_ ?_|(refine ta_ ?_;intro _)|((fail_if_success (refine ybi rfl ?_));refine ybj rfl ?_ ?_<;>(intro ht;rw [ht];first|replace ht := oet_ ht|replace ht := oef_ ht|skip))|(refine ych ?_;first|(refine ybw rfl ?_ ?_<;>intro ht)|(refine ybx rfl ?_ ?_<;>intro ht)))
    exact nx_end0 rfl (fun w' s' => ⟨x, rfl, s', trivial⟩)
end Go.Proofs.YtndpclcbobgdlaaGreatDoor
end

section
namespace Go.Ck
open Go
def picks : List Nat → List Res → List Res
  | [], _ => []
  | i :: is, L => match L[i]? with
    | some r => r :: picks is (L.eraseIdx i)
    | none => []
theorem picks_perm : ∀ (is : List Nat) (L : List Res), ∃ Lr, L.Perm (picks is L ++ Lr)
  | [], L => ⟨L, .refl _⟩
  | i :: is, L => by
    cases h : L[i]? with
    | none => exact ⟨L, by simp [picks, h]⟩
    | some r =>
      obtain ⟨Lr, hp⟩ := picks_perm is (L.eraseIdx i)
      refine ⟨Lr, ?_⟩
      have e : picks (i :: is) L = r :: picks is (L.eraseIdx i) := by simp [picks, h]
      rw [e]
      exact (perm_at h).trans (.cons _ hp)
theorem St.picks {K : Bs} {h : View} {L : List Res} {w : World} (is : List Nat) (s : St K h L w) : St K h (Ck.picks is L) w := by
  obtain ⟨Lr, hp⟩ := picks_perm is L
  exact St.drop (L := Lr) (s.perm (hp.trans List.perm_append_comm))
section
variable {P : Program} {n : Nat} {K : Bs} {F : List (Nat × Value)} {h : View} {L : List Res} {Q : Exit → Act → World → Prop}
end
end Go.Ck
end
