/-
  Part 2 of a proof: CkTy CkTc CkTac CkRange CkBool CkEq.
  Conditions: each theorem states its own.
-/
import Derived.Test.YtgeepceieckooaaGreatDoorRows
import Derived.RangeFuncGives
import Derived.RangeFuncLeaves
import Derived.RangeFuncSeq
import Derived.TacticsIn
import Derived.Laws.Small
import Derived.Test.YtgeepceieckooaaGreatDoorEvGPM1
section
namespace Go.Proofs.YtgeepceieckooaaGreatDoor
open Go Go.Ck
instance cku3 : TyU Tryz.prog 3 (Go.TypeDesc.int Go.IntKind.i64) := ⟨Tryz.underlying3⟩
instance cku4 : TyU Tryz.prog 4 (Go.TypeDesc.bool) := ⟨Tryz.underlying4⟩
instance cku5 : TyU Tryz.prog 5 (Go.TypeDesc.int Go.IntKind.u8) := ⟨Tryz.underlying5⟩
instance cku9 : TyU Tryz.prog 9 (Go.TypeDesc.string) := ⟨Tryz.underlying9⟩
instance cku22 : TyU Tryz.prog 22 (Go.TypeDesc.slice 5) := ⟨Tryz.underlying22⟩
instance ckf24_0 : TyF Tryz.prog 24 0 0 3 1 := ⟨_, _, Tryz.underlying24, rfl, rfl, rfl, Tryz.sizeOf3⟩
instance ckf24_1 : TyF Tryz.prog 24 1 1 3 1 := ⟨_, _, Tryz.underlying24, rfl, rfl, rfl, Tryz.sizeOf3⟩
instance cku33 : TyU Tryz.prog 33 (Go.TypeDesc.array 32 5) := ⟨Tryz.underlying33⟩
instance cku42 : TyU Tryz.prog 42 (Go.TypeDesc.int Go.IntKind.i64) := ⟨Tryz.underlying42⟩
instance cku72 : TyU Tryz.prog 72 (Go.TypeDesc.pointer 102) := ⟨Tryz.underlying72⟩
instance cku85 : TyU Tryz.prog 85 (Go.TypeDesc.pointer 132) := ⟨Tryz.underlying85⟩
instance cku88 : TyU Tryz.prog 88 (Go.TypeDesc.pointer 3) := ⟨Tryz.underlying88⟩
instance cku92 : TyU Tryz.prog 92 (Go.TypeDesc.pointer 94) := ⟨Tryz.underlying92⟩
instance ckf94_0 : TyF Tryz.prog 94 0 0 9 1 := ⟨_, _, Tryz.underlying94, rfl, rfl, rfl, Tryz.sizeOf9⟩
instance ckf94_1 : TyF Tryz.prog 94 1 1 42 1 := ⟨_, _, Tryz.underlying94, rfl, rfl, rfl, Tryz.sizeOf42⟩
instance ckf102_0 : TyF Tryz.prog 102 0 0 22 1 := ⟨_, _, Tryz.underlying102, rfl, rfl, rfl, Tryz.sizeOf22⟩
instance ckf102_1 : TyF Tryz.prog 102 1 1 4 1 := ⟨_, _, Tryz.underlying102, rfl, rfl, rfl, Tryz.sizeOf4⟩
instance cku117 : TyU Tryz.prog 117 (Go.TypeDesc.array 12 5) := ⟨Tryz.underlying117⟩
instance ckf132_0 : TyF Tryz.prog 132 0 0 22 1 := ⟨_, _, Tryz.underlying132, rfl, rfl, rfl, Tryz.sizeOf22⟩
instance ckf132_1 : TyF Tryz.prog 132 1 1 42 1 := ⟨_, _, Tryz.underlying132, rfl, rfl, rfl, Tryz.sizeOf42⟩
instance cku136 : TyU Tryz.prog 136 (Go.TypeDesc.int Go.IntKind.u64) := ⟨Tryz.underlying136⟩
instance cku141 : TyU Tryz.prog 141 (Go.TypeDesc.int Go.IntKind.u32) := ⟨Tryz.underlying141⟩
instance cku151 : TyU Tryz.prog 151 (Go.TypeDesc.int Go.IntKind.u64) := ⟨Tryz.underlying151⟩
instance cku154 : TyU Tryz.prog 154 (Go.TypeDesc.slice 22) := ⟨Tryz.underlying154⟩
instance cku158 : TyU Tryz.prog 158 (Go.TypeDesc.array 64 5) := ⟨Tryz.underlying158⟩
instance cku164 : TyU Tryz.prog 164 (Go.TypeDesc.array 8 141) := ⟨Tryz.underlying164⟩
instance cku166 : TyU Tryz.prog 166 (Go.TypeDesc.array 16 141) := ⟨Tryz.underlying166⟩
instance cku179 : TyU Tryz.prog 179 (Go.TypeDesc.array 64 141) := ⟨Tryz.underlying179⟩
instance cka3 : TyA Tryz.prog 3 false := ⟨Tryz.isAgg3⟩
instance cka4 : TyA Tryz.prog 4 false := ⟨Tryz.isAgg4⟩
instance cka5 : TyA Tryz.prog 5 false := ⟨Tryz.isAgg5⟩
instance cka9 : TyA Tryz.prog 9 false := ⟨Tryz.isAgg9⟩
instance cka22 : TyA Tryz.prog 22 false := ⟨Tryz.isAgg22⟩
instance cka24 : TyA Tryz.prog 24 true := ⟨Tryz.isAgg24⟩
instance cka33 : TyA Tryz.prog 33 true := ⟨Tryz.isAgg33⟩
instance cka42 : TyA Tryz.prog 42 false := ⟨Tryz.isAgg42⟩
instance cka72 : TyA Tryz.prog 72 false := ⟨Tryz.isAgg72⟩
instance cka85 : TyA Tryz.prog 85 false := ⟨Tryz.isAgg85⟩
instance cka88 : TyA Tryz.prog 88 false := ⟨Tryz.isAgg88⟩
instance cka92 : TyA Tryz.prog 92 false := ⟨Tryz.isAgg92⟩
instance cka94 : TyA Tryz.prog 94 true := ⟨Tryz.isAgg94⟩
instance cka102 : TyA Tryz.prog 102 true := ⟨Tryz.isAgg102⟩
instance cka117 : TyA Tryz.prog 117 true := ⟨Tryz.isAgg117⟩
instance cka132 : TyA Tryz.prog 132 true := ⟨Tryz.isAgg132⟩
instance cka136 : TyA Tryz.prog 136 false := ⟨Tryz.isAgg136⟩
instance cka141 : TyA Tryz.prog 141 false := ⟨Tryz.isAgg141⟩
instance cka151 : TyA Tryz.prog 151 false := ⟨Tryz.isAgg151⟩
instance cka154 : TyA Tryz.prog 154 false := ⟨Tryz.isAgg154⟩
instance cka158 : TyA Tryz.prog 158 true := ⟨Tryz.isAgg158⟩
instance cka164 : TyA Tryz.prog 164 true := ⟨Tryz.isAgg164⟩
instance cka166 : TyA Tryz.prog 166 true := ⟨Tryz.isAgg166⟩
instance cka179 : TyA Tryz.prog 179 true := ⟨Tryz.isAgg179⟩
instance cks3 : TyS Tryz.prog 3 1 := ⟨Tryz.sizeOf3⟩
instance cks4 : TyS Tryz.prog 4 1 := ⟨Tryz.sizeOf4⟩
instance cks5 : TyS Tryz.prog 5 1 := ⟨Tryz.sizeOf5⟩
instance cks9 : TyS Tryz.prog 9 1 := ⟨Tryz.sizeOf9⟩
instance cks22 : TyS Tryz.prog 22 1 := ⟨Tryz.sizeOf22⟩
instance cks24 : TyS Tryz.prog 24 2 := ⟨Tryz.sizeOf24⟩
instance cks33 : TyS Tryz.prog 33 32 := ⟨Tryz.sizeOf33⟩
instance cks42 : TyS Tryz.prog 42 1 := ⟨Tryz.sizeOf42⟩
instance cks72 : TyS Tryz.prog 72 1 := ⟨Tryz.sizeOf72⟩
instance cks85 : TyS Tryz.prog 85 1 := ⟨Tryz.sizeOf85⟩
instance cks88 : TyS Tryz.prog 88 1 := ⟨Tryz.sizeOf88⟩
instance cks92 : TyS Tryz.prog 92 1 := ⟨Tryz.sizeOf92⟩
instance cks94 : TyS Tryz.prog 94 2 := ⟨Tryz.sizeOf94⟩
instance cks102 : TyS Tryz.prog 102 2 := ⟨Tryz.sizeOf102⟩
instance cks117 : TyS Tryz.prog 117 12 := ⟨Tryz.sizeOf117⟩
instance cks132 : TyS Tryz.prog 132 2 := ⟨Tryz.sizeOf132⟩
instance cks136 : TyS Tryz.prog 136 1 := ⟨Tryz.sizeOf136⟩
instance cks141 : TyS Tryz.prog 141 1 := ⟨Tryz.sizeOf141⟩
instance cks151 : TyS Tryz.prog 151 1 := ⟨Tryz.sizeOf151⟩
instance cks154 : TyS Tryz.prog 154 1 := ⟨Tryz.sizeOf154⟩
instance cks158 : TyS Tryz.prog 158 64 := ⟨Tryz.sizeOf158⟩
instance cks164 : TyS Tryz.prog 164 8 := ⟨Tryz.sizeOf164⟩
instance cks166 : TyS Tryz.prog 166 16 := ⟨Tryz.sizeOf166⟩
instance cks179 : TyS Tryz.prog 179 64 := ⟨Tryz.sizeOf179⟩
instance ckz3 : TyZ Tryz.prog 3 (Go.Value.int Go.IntKind.i64 0) := ⟨Tryz.zeroValue3⟩
instance ckz4 : TyZ Tryz.prog 4 (Go.Value.bool false) := ⟨Tryz.zeroValue4⟩
instance ckz5 : TyZ Tryz.prog 5 (Go.Value.int Go.IntKind.u8 0) := ⟨Tryz.zeroValue5⟩
instance ckz9 : TyZ Tryz.prog 9 (Go.Value.string { data := #[] }) := ⟨Tryz.zeroValue9⟩
instance ckz22 : TyZ Tryz.prog 22 (Go.Value.slice none 0 0) := ⟨Tryz.zeroValue22⟩
instance ckz24 : TyZ Tryz.prog 24 (Go.Value.agg #[Go.Value.int Go.IntKind.i64 0, Go.Value.int Go.IntKind.i64 0]) := ⟨Tryz.zeroValue24⟩
instance ckz33 : TyZ Tryz.prog 33 (Go.Value.agg #[Go.Value.int Go.IntKind.u8 0, Go.Value.int Go.IntKind.u8 0, Go.Value.int Go.IntKind.u8 0, Go.Value.int Go.IntKind.u8 0, Go.Value.int Go.IntKind.u8 0, Go.Value.int Go.IntKind.u8 0, Go.Value.int Go.IntKind.u8 0, Go.Value.int Go.IntKind.u8 0, Go.Value.int Go.IntKind.u8 0, Go.Value.int Go.IntKind.u8 0, Go.Value.int Go.IntKind.u8 0, Go.Value.int Go.IntKind.u8 0, Go.Value.int Go.IntKind.u8 0, Go.Value.int Go.IntKind.u8 0, Go.Value.int Go.IntKind.u8 0, Go.Value.int Go.IntKind.u8 0, Go.Value.int Go.IntKind.u8 0, Go.Value.int Go.IntKind.u8 0, Go.Value.int Go.IntKind.u8 0, Go.Value.int Go.IntKind.u8 0, Go.Value.int Go.IntKind.u8 0, Go.Value.int Go.IntKind.u8 0, Go.Value.int Go.IntKind.u8 0, Go.Value.int Go.IntKind.u8 0, Go.Value.int Go.IntKind.u8 0, Go.Value.int Go.IntKind.u8 0, Go.Value.int Go.IntKind.u8 0, Go.Value.int Go.IntKind.u8 0, Go.Value.int Go.IntKind.u8 0, Go.Value.int Go.IntKind.u8 0, Go.Value.int Go.IntKind.u8 0, Go.Value.int Go.IntKind.u8 0]) := ⟨Tryz.zeroValue33⟩
instance ckz42 : TyZ Tryz.prog 42 (Go.Value.int Go.IntKind.i64 0) := ⟨Tryz.zeroValue42⟩
instance ckz72 : TyZ Tryz.prog 72 (Go.Value.pointer none) := ⟨Tryz.zeroValue72⟩
instance ckz85 : TyZ Tryz.prog 85 (Go.Value.pointer none) := ⟨Tryz.zeroValue85⟩
instance ckz88 : TyZ Tryz.prog 88 (Go.Value.pointer none) := ⟨Tryz.zeroValue88⟩
instance ckz92 : TyZ Tryz.prog 92 (Go.Value.pointer none) := ⟨Tryz.zeroValue92⟩
instance ckz94 : TyZ Tryz.prog 94 (Go.Value.agg #[Go.Value.string { data := #[] }, Go.Value.int Go.IntKind.i64 0]) := ⟨Tryz.zeroValue94⟩
instance ckz102 : TyZ Tryz.prog 102 (Go.Value.agg #[Go.Value.slice none 0 0, Go.Value.bool false]) := ⟨Tryz.zeroValue102⟩
instance ckz117 : TyZ Tryz.prog 117 (Go.Value.agg #[Go.Value.int Go.IntKind.u8 0, Go.Value.int Go.IntKind.u8 0, Go.Value.int Go.IntKind.u8 0, Go.Value.int Go.IntKind.u8 0, Go.Value.int Go.IntKind.u8 0, Go.Value.int Go.IntKind.u8 0, Go.Value.int Go.IntKind.u8 0, Go.Value.int Go.IntKind.u8 0, Go.Value.int Go.IntKind.u8 0, Go.Value.int Go.IntKind.u8 0, Go.Value.int Go.IntKind.u8 0, Go.Value.int Go.IntKind.u8 0]) := ⟨Tryz.zeroValue117⟩
instance ckz132 : TyZ Tryz.prog 132 (Go.Value.agg #[Go.Value.slice none 0 0, Go.Value.int Go.IntKind.i64 0]) := ⟨Tryz.zeroValue132⟩
instance ckz136 : TyZ Tryz.prog 136 (Go.Value.int Go.IntKind.u64 0) := ⟨Tryz.zeroValue136⟩
instance ckz141 : TyZ Tryz.prog 141 (Go.Value.int Go.IntKind.u32 0) := ⟨Tryz.zeroValue141⟩
instance ckz151 : TyZ Tryz.prog 151 (Go.Value.int Go.IntKind.u64 0) := ⟨Tryz.zeroValue151⟩
instance ckz154 : TyZ Tryz.prog 154 (Go.Value.slice none 0 0) := ⟨Tryz.zeroValue154⟩
instance ckz158 : TyZ Tryz.prog 158 (Go.Value.agg #[Go.Value.int Go.IntKind.u8 0, Go.Value.int Go.IntKind.u8 0, Go.Value.int Go.IntKind.u8 0, Go.Value.int Go.IntKind.u8 0, Go.Value.int Go.IntKind.u8 0, Go.Value.int Go.IntKind.u8 0, Go.Value.int Go.IntKind.u8 0, Go.Value.int Go.IntKind.u8 0, Go.Value.int Go.IntKind.u8 0, Go.Value.int Go.IntKind.u8 0, Go.Value.int Go.IntKind.u8 0, Go.Value.int Go.IntKind.u8 0, Go.Value.int Go.IntKind.u8 0, Go.Value.int Go.IntKind.u8 0, Go.Value.int Go.IntKind.u8 0, Go.Value.int Go.IntKind.u8 0, Go.Value.int Go.IntKind.u8 0, Go.Value.int Go.IntKind.u8 0, Go.Value.int Go.IntKind.u8 0, Go.Value.int Go.IntKind.u8 0, Go.Value.int Go.IntKind.u8 0, Go.Value.int Go.IntKind.u8 0, Go.Value.int Go.IntKind.u8 0, Go.Value.int Go.IntKind.u8 0, Go.Value.int Go.IntKind.u8 0, Go.Value.int Go.IntKind.u8 0, Go.Value.int Go.IntKind.u8 0, Go.Value.int Go.IntKind.u8 0, Go.Value.int Go.IntKind.u8 0, Go.Value.int Go.IntKind.u8 0, Go.Value.int Go.IntKind.u8 0, Go.Value.int Go.IntKind.u8 0, Go.Value.int Go.IntKind.u8 0, Go.Value.int Go.IntKind.u8 0, Go.Value.int Go.IntKind.u8 0, Go.Value.int Go.IntKind.u8 0, Go.Value.int Go.IntKind.u8 0, Go.Value.int Go.IntKind.u8 0, Go.Value.int Go.IntKind.u8 0, Go.Value.int Go.IntKind.u8 0, Go.Value.int Go.IntKind.u8 0, Go.Value.int Go.IntKind.u8 0, Go.Value.int Go.IntKind.u8 0, Go.Value.int Go.IntKind.u8 0, Go.Value.int Go.IntKind.u8 0, Go.Value.int Go.IntKind.u8 0, Go.Value.int Go.IntKind.u8 0, Go.Value.int Go.IntKind.u8 0, Go.Value.int Go.IntKind.u8 0, Go.Value.int Go.IntKind.u8 0, Go.Value.int Go.IntKind.u8 0, Go.Value.int Go.IntKind.u8 0, Go.Value.int Go.IntKind.u8 0, Go.Value.int Go.IntKind.u8 0, Go.Value.int Go.IntKind.u8 0, Go.Value.int Go.IntKind.u8 0, Go.Value.int Go.IntKind.u8 0, Go.Value.int Go.IntKind.u8 0, Go.Value.int Go.IntKind.u8 0, Go.Value.int Go.IntKind.u8 0, Go.Value.int Go.IntKind.u8 0, Go.Value.int Go.IntKind.u8 0, Go.Value.int Go.IntKind.u8 0, Go.Value.int Go.IntKind.u8 0]) := ⟨Tryz.zeroValue158⟩
instance ckz164 : TyZ Tryz.prog 164 (Go.Value.agg #[Go.Value.int Go.IntKind.u32 0, Go.Value.int Go.IntKind.u32 0, Go.Value.int Go.IntKind.u32 0, Go.Value.int Go.IntKind.u32 0, Go.Value.int Go.IntKind.u32 0, Go.Value.int Go.IntKind.u32 0, Go.Value.int Go.IntKind.u32 0, Go.Value.int Go.IntKind.u32 0]) := ⟨Tryz.zeroValue164⟩
instance ckz166 : TyZ Tryz.prog 166 (Go.Value.agg #[Go.Value.int Go.IntKind.u32 0, Go.Value.int Go.IntKind.u32 0, Go.Value.int Go.IntKind.u32 0, Go.Value.int Go.IntKind.u32 0, Go.Value.int Go.IntKind.u32 0, Go.Value.int Go.IntKind.u32 0, Go.Value.int Go.IntKind.u32 0, Go.Value.int Go.IntKind.u32 0, Go.Value.int Go.IntKind.u32 0, Go.Value.int Go.IntKind.u32 0, Go.Value.int Go.IntKind.u32 0, Go.Value.int Go.IntKind.u32 0, Go.Value.int Go.IntKind.u32 0, Go.Value.int Go.IntKind.u32 0, Go.Value.int Go.IntKind.u32 0, Go.Value.int Go.IntKind.u32 0]) := ⟨Tryz.zeroValue166⟩
instance ckz179 : TyZ Tryz.prog 179 (Go.Value.agg #[Go.Value.int Go.IntKind.u32 0, Go.Value.int Go.IntKind.u32 0, Go.Value.int Go.IntKind.u32 0, Go.Value.int Go.IntKind.u32 0, Go.Value.int Go.IntKind.u32 0, Go.Value.int Go.IntKind.u32 0, Go.Value.int Go.IntKind.u32 0, Go.Value.int Go.IntKind.u32 0, Go.Value.int Go.IntKind.u32 0, Go.Value.int Go.IntKind.u32 0, Go.Value.int Go.IntKind.u32 0, Go.Value.int Go.IntKind.u32 0, Go.Value.int Go.IntKind.u32 0, Go.Value.int Go.IntKind.u32 0, Go.Value.int Go.IntKind.u32 0, Go.Value.int Go.IntKind.u32 0, Go.Value.int Go.IntKind.u32 0, Go.Value.int Go.IntKind.u32 0, Go.Value.int Go.IntKind.u32 0, Go.Value.int Go.IntKind.u32 0, Go.Value.int Go.IntKind.u32 0, Go.Value.int Go.IntKind.u32 0, Go.Value.int Go.IntKind.u32 0, Go.Value.int Go.IntKind.u32 0, Go.Value.int Go.IntKind.u32 0, Go.Value.int Go.IntKind.u32 0, Go.Value.int Go.IntKind.u32 0, Go.Value.int Go.IntKind.u32 0, Go.Value.int Go.IntKind.u32 0, Go.Value.int Go.IntKind.u32 0, Go.Value.int Go.IntKind.u32 0, Go.Value.int Go.IntKind.u32 0, Go.Value.int Go.IntKind.u32 0, Go.Value.int Go.IntKind.u32 0, Go.Value.int Go.IntKind.u32 0, Go.Value.int Go.IntKind.u32 0, Go.Value.int Go.IntKind.u32 0, Go.Value.int Go.IntKind.u32 0, Go.Value.int Go.IntKind.u32 0, Go.Value.int Go.IntKind.u32 0, Go.Value.int Go.IntKind.u32 0, Go.Value.int Go.IntKind.u32 0, Go.Value.int Go.IntKind.u32 0, Go.Value.int Go.IntKind.u32 0, Go.Value.int Go.IntKind.u32 0, Go.Value.int Go.IntKind.u32 0, Go.Value.int Go.IntKind.u32 0, Go.Value.int Go.IntKind.u32 0, Go.Value.int Go.IntKind.u32 0, Go.Value.int Go.IntKind.u32 0, Go.Value.int Go.IntKind.u32 0, Go.Value.int Go.IntKind.u32 0, Go.Value.int Go.IntKind.u32 0, Go.Value.int Go.IntKind.u32 0, Go.Value.int Go.IntKind.u32 0, Go.Value.int Go.IntKind.u32 0, Go.Value.int Go.IntKind.u32 0, Go.Value.int Go.IntKind.u32 0, Go.Value.int Go.IntKind.u32 0, Go.Value.int Go.IntKind.u32 0, Go.Value.int Go.IntKind.u32 0, Go.Value.int Go.IntKind.u32 0, Go.Value.int Go.IntKind.u32 0, Go.Value.int Go.IntKind.u32 0]) := ⟨Tryz.zeroValue179⟩
instance ckb3 : TyB Tryz.prog 3 (Go.Value.int Go.IntKind.i64 0) 1 8 := ⟨by kernel_rfl⟩
instance ckb4 : TyB Tryz.prog 4 (Go.Value.bool false) 1 1 := ⟨by kernel_rfl⟩
instance ckb5 : TyB Tryz.prog 5 (Go.Value.int Go.IntKind.u8 0) 1 1 := ⟨by kernel_rfl⟩
instance ckb9 : TyB Tryz.prog 9 (Go.Value.string { data := #[] }) 1 16 := ⟨by kernel_rfl⟩
instance ckb22 : TyB Tryz.prog 22 (Go.Value.slice none 0 0) 1 24 := ⟨by kernel_rfl⟩
instance ckb24 : TyB Tryz.prog 24 (Go.Value.agg #[Go.Value.int Go.IntKind.i64 0, Go.Value.int Go.IntKind.i64 0]) 2 16 := ⟨by kernel_rfl⟩
instance ckb33 : TyB Tryz.prog 33 (Go.Value.agg #[Go.Value.int Go.IntKind.u8 0, Go.Value.int Go.IntKind.u8 0, Go.Value.int Go.IntKind.u8 0, Go.Value.int Go.IntKind.u8 0, Go.Value.int Go.IntKind.u8 0, Go.Value.int Go.IntKind.u8 0, Go.Value.int Go.IntKind.u8 0, Go.Value.int Go.IntKind.u8 0, Go.Value.int Go.IntKind.u8 0, Go.Value.int Go.IntKind.u8 0, Go.Value.int Go.IntKind.u8 0, Go.Value.int Go.IntKind.u8 0, Go.Value.int Go.IntKind.u8 0, Go.Value.int Go.IntKind.u8 0, Go.Value.int Go.IntKind.u8 0, Go.Value.int Go.IntKind.u8 0, Go.Value.int Go.IntKind.u8 0, Go.Value.int Go.IntKind.u8 0, Go.Value.int Go.IntKind.u8 0, Go.Value.int Go.IntKind.u8 0, Go.Value.int Go.IntKind.u8 0, Go.Value.int Go.IntKind.u8 0, Go.Value.int Go.IntKind.u8 0, Go.Value.int Go.IntKind.u8 0, Go.Value.int Go.IntKind.u8 0, Go.Value.int Go.IntKind.u8 0, Go.Value.int Go.IntKind.u8 0, Go.Value.int Go.IntKind.u8 0, Go.Value.int Go.IntKind.u8 0, Go.Value.int Go.IntKind.u8 0, Go.Value.int Go.IntKind.u8 0, Go.Value.int Go.IntKind.u8 0]) 32 32 := ⟨by kernel_rfl⟩
instance ckb42 : TyB Tryz.prog 42 (Go.Value.int Go.IntKind.i64 0) 1 8 := ⟨by kernel_rfl⟩
instance ckb72 : TyB Tryz.prog 72 (Go.Value.pointer none) 1 8 := ⟨by kernel_rfl⟩
instance ckb85 : TyB Tryz.prog 85 (Go.Value.pointer none) 1 8 := ⟨by kernel_rfl⟩
instance ckb88 : TyB Tryz.prog 88 (Go.Value.pointer none) 1 8 := ⟨by kernel_rfl⟩
instance ckb92 : TyB Tryz.prog 92 (Go.Value.pointer none) 1 8 := ⟨by kernel_rfl⟩
instance ckb94 : TyB Tryz.prog 94 (Go.Value.agg #[Go.Value.string { data := #[] }, Go.Value.int Go.IntKind.i64 0]) 2 24 := ⟨by kernel_rfl⟩
instance ckb102 : TyB Tryz.prog 102 (Go.Value.agg #[Go.Value.slice none 0 0, Go.Value.bool false]) 2 32 := ⟨by kernel_rfl⟩
instance ckb117 : TyB Tryz.prog 117 (Go.Value.agg #[Go.Value.int Go.IntKind.u8 0, Go.Value.int Go.IntKind.u8 0, Go.Value.int Go.IntKind.u8 0, Go.Value.int Go.IntKind.u8 0, Go.Value.int Go.IntKind.u8 0, Go.Value.int Go.IntKind.u8 0, Go.Value.int Go.IntKind.u8 0, Go.Value.int Go.IntKind.u8 0, Go.Value.int Go.IntKind.u8 0, Go.Value.int Go.IntKind.u8 0, Go.Value.int Go.IntKind.u8 0, Go.Value.int Go.IntKind.u8 0]) 12 12 := ⟨by kernel_rfl⟩
instance ckb132 : TyB Tryz.prog 132 (Go.Value.agg #[Go.Value.slice none 0 0, Go.Value.int Go.IntKind.i64 0]) 2 32 := ⟨by kernel_rfl⟩
instance ckb136 : TyB Tryz.prog 136 (Go.Value.int Go.IntKind.u64 0) 1 8 := ⟨by kernel_rfl⟩
instance ckb141 : TyB Tryz.prog 141 (Go.Value.int Go.IntKind.u32 0) 1 4 := ⟨by kernel_rfl⟩
instance ckb151 : TyB Tryz.prog 151 (Go.Value.int Go.IntKind.u64 0) 1 8 := ⟨by kernel_rfl⟩
instance ckb154 : TyB Tryz.prog 154 (Go.Value.slice none 0 0) 1 24 := ⟨by kernel_rfl⟩
instance ckb158 : TyB Tryz.prog 158 (Go.Value.agg #[Go.Value.int Go.IntKind.u8 0, Go.Value.int Go.IntKind.u8 0, Go.Value.int Go.IntKind.u8 0, Go.Value.int Go.IntKind.u8 0, Go.Value.int Go.IntKind.u8 0, Go.Value.int Go.IntKind.u8 0, Go.Value.int Go.IntKind.u8 0, Go.Value.int Go.IntKind.u8 0, Go.Value.int Go.IntKind.u8 0, Go.Value.int Go.IntKind.u8 0, Go.Value.int Go.IntKind.u8 0, Go.Value.int Go.IntKind.u8 0, Go.Value.int Go.IntKind.u8 0, Go.Value.int Go.IntKind.u8 0, Go.Value.int Go.IntKind.u8 0, Go.Value.int Go.IntKind.u8 0, Go.Value.int Go.IntKind.u8 0, Go.Value.int Go.IntKind.u8 0, Go.Value.int Go.IntKind.u8 0, Go.Value.int Go.IntKind.u8 0, Go.Value.int Go.IntKind.u8 0, Go.Value.int Go.IntKind.u8 0, Go.Value.int Go.IntKind.u8 0, Go.Value.int Go.IntKind.u8 0, Go.Value.int Go.IntKind.u8 0, Go.Value.int Go.IntKind.u8 0, Go.Value.int Go.IntKind.u8 0, Go.Value.int Go.IntKind.u8 0, Go.Value.int Go.IntKind.u8 0, Go.Value.int Go.IntKind.u8 0, Go.Value.int Go.IntKind.u8 0, Go.Value.int Go.IntKind.u8 0, Go.Value.int Go.IntKind.u8 0, Go.Value.int Go.IntKind.u8 0, Go.Value.int Go.IntKind.u8 0, Go.Value.int Go.IntKind.u8 0, Go.Value.int Go.IntKind.u8 0, Go.Value.int Go.IntKind.u8 0, Go.Value.int Go.IntKind.u8 0, Go.Value.int Go.IntKind.u8 0, Go.Value.int Go.IntKind.u8 0, Go.Value.int Go.IntKind.u8 0, Go.Value.int Go.IntKind.u8 0, Go.Value.int Go.IntKind.u8 0, Go.Value.int Go.IntKind.u8 0, Go.Value.int Go.IntKind.u8 0, Go.Value.int Go.IntKind.u8 0, Go.Value.int Go.IntKind.u8 0, Go.Value.int Go.IntKind.u8 0, Go.Value.int Go.IntKind.u8 0, Go.Value.int Go.IntKind.u8 0, Go.Value.int Go.IntKind.u8 0, Go.Value.int Go.IntKind.u8 0, Go.Value.int Go.IntKind.u8 0, Go.Value.int Go.IntKind.u8 0, Go.Value.int Go.IntKind.u8 0, Go.Value.int Go.IntKind.u8 0, Go.Value.int Go.IntKind.u8 0, Go.Value.int Go.IntKind.u8 0, Go.Value.int Go.IntKind.u8 0, Go.Value.int Go.IntKind.u8 0, Go.Value.int Go.IntKind.u8 0, Go.Value.int Go.IntKind.u8 0, Go.Value.int Go.IntKind.u8 0]) 64 64 := ⟨by kernel_rfl⟩
instance ckb164 : TyB Tryz.prog 164 (Go.Value.agg #[Go.Value.int Go.IntKind.u32 0, Go.Value.int Go.IntKind.u32 0, Go.Value.int Go.IntKind.u32 0, Go.Value.int Go.IntKind.u32 0, Go.Value.int Go.IntKind.u32 0, Go.Value.int Go.IntKind.u32 0, Go.Value.int Go.IntKind.u32 0, Go.Value.int Go.IntKind.u32 0]) 8 32 := ⟨by kernel_rfl⟩
instance ckb166 : TyB Tryz.prog 166 (Go.Value.agg #[Go.Value.int Go.IntKind.u32 0, Go.Value.int Go.IntKind.u32 0, Go.Value.int Go.IntKind.u32 0, Go.Value.int Go.IntKind.u32 0, Go.Value.int Go.IntKind.u32 0, Go.Value.int Go.IntKind.u32 0, Go.Value.int Go.IntKind.u32 0, Go.Value.int Go.IntKind.u32 0, Go.Value.int Go.IntKind.u32 0, Go.Value.int Go.IntKind.u32 0, Go.Value.int Go.IntKind.u32 0, Go.Value.int Go.IntKind.u32 0, Go.Value.int Go.IntKind.u32 0, Go.Value.int Go.IntKind.u32 0, Go.Value.int Go.IntKind.u32 0, Go.Value.int Go.IntKind.u32 0]) 16 64 := ⟨by kernel_rfl⟩
instance ckb179 : TyB Tryz.prog 179 (Go.Value.agg #[Go.Value.int Go.IntKind.u32 0, Go.Value.int Go.IntKind.u32 0, Go.Value.int Go.IntKind.u32 0, Go.Value.int Go.IntKind.u32 0, Go.Value.int Go.IntKind.u32 0, Go.Value.int Go.IntKind.u32 0, Go.Value.int Go.IntKind.u32 0, Go.Value.int Go.IntKind.u32 0, Go.Value.int Go.IntKind.u32 0, Go.Value.int Go.IntKind.u32 0, Go.Value.int Go.IntKind.u32 0, Go.Value.int Go.IntKind.u32 0, Go.Value.int Go.IntKind.u32 0, Go.Value.int Go.IntKind.u32 0, Go.Value.int Go.IntKind.u32 0, Go.Value.int Go.IntKind.u32 0, Go.Value.int Go.IntKind.u32 0, Go.Value.int Go.IntKind.u32 0, Go.Value.int Go.IntKind.u32 0, Go.Value.int Go.IntKind.u32 0, Go.Value.int Go.IntKind.u32 0, Go.Value.int Go.IntKind.u32 0, Go.Value.int Go.IntKind.u32 0, Go.Value.int Go.IntKind.u32 0, Go.Value.int Go.IntKind.u32 0, Go.Value.int Go.IntKind.u32 0, Go.Value.int Go.IntKind.u32 0, Go.Value.int Go.IntKind.u32 0, Go.Value.int Go.IntKind.u32 0, Go.Value.int Go.IntKind.u32 0, Go.Value.int Go.IntKind.u32 0, Go.Value.int Go.IntKind.u32 0, Go.Value.int Go.IntKind.u32 0, Go.Value.int Go.IntKind.u32 0, Go.Value.int Go.IntKind.u32 0, Go.Value.int Go.IntKind.u32 0, Go.Value.int Go.IntKind.u32 0, Go.Value.int Go.IntKind.u32 0, Go.Value.int Go.IntKind.u32 0, Go.Value.int Go.IntKind.u32 0, Go.Value.int Go.IntKind.u32 0, Go.Value.int Go.IntKind.u32 0, Go.Value.int Go.IntKind.u32 0, Go.Value.int Go.IntKind.u32 0, Go.Value.int Go.IntKind.u32 0, Go.Value.int Go.IntKind.u32 0, Go.Value.int Go.IntKind.u32 0, Go.Value.int Go.IntKind.u32 0, Go.Value.int Go.IntKind.u32 0, Go.Value.int Go.IntKind.u32 0, Go.Value.int Go.IntKind.u32 0, Go.Value.int Go.IntKind.u32 0, Go.Value.int Go.IntKind.u32 0, Go.Value.int Go.IntKind.u32 0, Go.Value.int Go.IntKind.u32 0, Go.Value.int Go.IntKind.u32 0, Go.Value.int Go.IntKind.u32 0, Go.Value.int Go.IntKind.u32 0, Go.Value.int Go.IntKind.u32 0, Go.Value.int Go.IntKind.u32 0, Go.Value.int Go.IntKind.u32 0, Go.Value.int Go.IntKind.u32 0, Go.Value.int Go.IntKind.u32 0, Go.Value.int Go.IntKind.u32 0]) 64 256 := ⟨by kernel_rfl⟩
instance ckp24 : TyP Tryz.prog 24 [(0, 1), (1, 1)] := ⟨_, Tryz.underlying24, fun w => by simp [Tryz.sizeOf3]⟩
instance ckp94 : TyP Tryz.prog 94 [(0, 1), (1, 1)] := ⟨_, Tryz.underlying94, fun w => by simp [Tryz.sizeOf9, Tryz.sizeOf42]⟩
instance ckp102 : TyP Tryz.prog 102 [(0, 1), (1, 1)] := ⟨_, Tryz.underlying102, fun w => by simp [Tryz.sizeOf4, Tryz.sizeOf22]⟩
instance ckp132 : TyP Tryz.prog 132 [(0, 1), (1, 1)] := ⟨_, Tryz.underlying132, fun w => by simp [Tryz.sizeOf22, Tryz.sizeOf42]⟩
instance ckg102 : TyG Tryz.prog 102 := ⟨Tryz.eqGuardType102⟩
instance ckg179 : TyG Tryz.prog 179 := ⟨Tryz.eqGuardType179⟩
instance ckg24 : TyG Tryz.prog 24 := ⟨Tryz.eqGuardType24⟩
instance ckg158 : TyG Tryz.prog 158 := ⟨Tryz.eqGuardType158⟩
instance ckg33 : TyG Tryz.prog 33 := ⟨Tryz.eqGuardType33⟩
instance ckg166 : TyG Tryz.prog 166 := ⟨Tryz.eqGuardType166⟩
instance ckg117 : TyG Tryz.prog 117 := ⟨Tryz.eqGuardType117⟩
instance ckg94 : TyG Tryz.prog 94 := ⟨Tryz.eqGuardType94⟩
instance ckg164 : TyG Tryz.prog 164 := ⟨Tryz.eqGuardType164⟩
instance ckg132 : TyG Tryz.prog 132 := ⟨Tryz.eqGuardType132⟩
end Go.Proofs.YtgeepceieckooaaGreatDoor
end

section
namespace Go.Proofs.YtgeepceieckooaaGreatDoor
open Go Go.Ck
instance ckf26_0 : TyF Tryz.prog 26 0 0 22 1 := ⟨_, _, Tryz.underlying26, rfl, rfl, rfl, Tryz.sizeOf22⟩
instance ckf26_1 : TyF Tryz.prog 26 1 1 3 1 := ⟨_, _, Tryz.underlying26, rfl, rfl, rfl, Tryz.sizeOf3⟩
instance ckf26_2 : TyF Tryz.prog 26 2 2 3 1 := ⟨_, _, Tryz.underlying26, rfl, rfl, rfl, Tryz.sizeOf3⟩
instance ckf26_3 : TyF Tryz.prog 26 3 3 24 2 := ⟨_, _, Tryz.underlying26, rfl, rfl, rfl, Tryz.sizeOf24⟩
instance ckf26_4 : TyF Tryz.prog 26 4 5 22 1 := ⟨_, _, Tryz.underlying26, rfl, rfl, rfl, Tryz.sizeOf22⟩
instance ckf26_5 : TyF Tryz.prog 26 5 6 22 1 := ⟨_, _, Tryz.underlying26, rfl, rfl, rfl, Tryz.sizeOf22⟩
instance ckf26_6 : TyF Tryz.prog 26 6 7 4 1 := ⟨_, _, Tryz.underlying26, rfl, rfl, rfl, Tryz.sizeOf4⟩
instance ckf28_0 : TyF Tryz.prog 28 0 0 9 1 := ⟨_, _, Tryz.underlying28, rfl, rfl, rfl, Tryz.sizeOf9⟩
instance ckf28_1 : TyF Tryz.prog 28 1 1 3 1 := ⟨_, _, Tryz.underlying28, rfl, rfl, rfl, Tryz.sizeOf3⟩
instance ckf28_2 : TyF Tryz.prog 28 2 2 3 1 := ⟨_, _, Tryz.underlying28, rfl, rfl, rfl, Tryz.sizeOf3⟩
instance ckf28_3 : TyF Tryz.prog 28 3 3 24 2 := ⟨_, _, Tryz.underlying28, rfl, rfl, rfl, Tryz.sizeOf24⟩
instance ckf28_4 : TyF Tryz.prog 28 4 5 9 1 := ⟨_, _, Tryz.underlying28, rfl, rfl, rfl, Tryz.sizeOf9⟩
instance ckf28_5 : TyF Tryz.prog 28 5 6 9 1 := ⟨_, _, Tryz.underlying28, rfl, rfl, rfl, Tryz.sizeOf9⟩
instance cku29 : TyU Tryz.prog 29 (Go.TypeDesc.pointer 107) := ⟨Tryz.underlying29⟩
instance cku30 : TyU Tryz.prog 30 (Go.TypeDesc.pointer 67) := ⟨Tryz.underlying30⟩
instance ckf36_0 : TyF Tryz.prog 36 0 0 3 1 := ⟨_, _, Tryz.underlying36, rfl, rfl, rfl, Tryz.sizeOf3⟩
instance ckf36_1 : TyF Tryz.prog 36 1 1 3 1 := ⟨_, _, Tryz.underlying36, rfl, rfl, rfl, Tryz.sizeOf3⟩
instance ckf36_2 : TyF Tryz.prog 36 2 2 24 2 := ⟨_, _, Tryz.underlying36, rfl, rfl, rfl, Tryz.sizeOf24⟩
instance ckf36_3 : TyF Tryz.prog 36 3 4 22 1 := ⟨_, _, Tryz.underlying36, rfl, rfl, rfl, Tryz.sizeOf22⟩
instance cku39 : TyU Tryz.prog 39 (Go.TypeDesc.array 32 5) := ⟨Tryz.underlying39⟩
instance ckf41_0 : TyF Tryz.prog 41 0 0 39 32 := ⟨_, _, Tryz.underlying41, rfl, rfl, rfl, Tryz.sizeOf39⟩
instance ckf41_1 : TyF Tryz.prog 41 1 32 36 5 := ⟨_, _, Tryz.underlying41, rfl, rfl, rfl, Tryz.sizeOf36⟩
instance ckf41_2 : TyF Tryz.prog 41 2 37 22 1 := ⟨_, _, Tryz.underlying41, rfl, rfl, rfl, Tryz.sizeOf22⟩
instance cku64 : TyU Tryz.prog 64 (Go.TypeDesc.slice 9) := ⟨Tryz.underlying64⟩
instance cku65 : TyU Tryz.prog 65 (Go.TypeDesc.slice 124) := ⟨Tryz.underlying65⟩
instance ckf67_0 : TyF Tryz.prog 67 0 0 4 1 := ⟨_, _, Tryz.underlying67, rfl, rfl, rfl, Tryz.sizeOf4⟩
instance ckf67_1 : TyF Tryz.prog 67 1 1 9 1 := ⟨_, _, Tryz.underlying67, rfl, rfl, rfl, Tryz.sizeOf9⟩
instance ckf67_2 : TyF Tryz.prog 67 2 2 64 1 := ⟨_, _, Tryz.underlying67, rfl, rfl, rfl, Tryz.sizeOf64⟩
instance ckf67_3 : TyF Tryz.prog 67 3 3 65 1 := ⟨_, _, Tryz.underlying67, rfl, rfl, rfl, Tryz.sizeOf65⟩
instance cku103 : TyU Tryz.prog 103 (Go.TypeDesc.map 9 3) := ⟨Tryz.underlying103⟩
instance cku104 : TyU Tryz.prog 104 (Go.TypeDesc.map 114 4) := ⟨Tryz.underlying104⟩
instance cku105 : TyU Tryz.prog 105 (Go.TypeDesc.map 116 22) := ⟨Tryz.underlying105⟩
instance ckf107_0 : TyF Tryz.prog 107 0 0 4 1 := ⟨_, _, Tryz.underlying107, rfl, rfl, rfl, Tryz.sizeOf4⟩
instance ckf107_1 : TyF Tryz.prog 107 1 1 33 32 := ⟨_, _, Tryz.underlying107, rfl, rfl, rfl, Tryz.sizeOf33⟩
instance ckf107_2 : TyF Tryz.prog 107 2 33 103 1 := ⟨_, _, Tryz.underlying107, rfl, rfl, rfl, Tryz.sizeOf103⟩
instance ckf107_3 : TyF Tryz.prog 107 3 34 104 1 := ⟨_, _, Tryz.underlying107, rfl, rfl, rfl, Tryz.sizeOf104⟩
instance ckf107_4 : TyF Tryz.prog 107 4 35 105 1 := ⟨_, _, Tryz.underlying107, rfl, rfl, rfl, Tryz.sizeOf105⟩
instance ckf114_0 : TyF Tryz.prog 114 0 0 3 1 := ⟨_, _, Tryz.underlying114, rfl, rfl, rfl, Tryz.sizeOf3⟩
instance ckf114_1 : TyF Tryz.prog 114 1 1 3 1 := ⟨_, _, Tryz.underlying114, rfl, rfl, rfl, Tryz.sizeOf3⟩
instance ckf116_0 : TyF Tryz.prog 116 0 0 114 2 := ⟨_, _, Tryz.underlying116, rfl, rfl, rfl, Tryz.sizeOf114⟩
instance ckf116_1 : TyF Tryz.prog 116 1 2 3 1 := ⟨_, _, Tryz.underlying116, rfl, rfl, rfl, Tryz.sizeOf3⟩
instance ckf116_2 : TyF Tryz.prog 116 2 3 9 1 := ⟨_, _, Tryz.underlying116, rfl, rfl, rfl, Tryz.sizeOf9⟩
instance ckf116_3 : TyF Tryz.prog 116 3 4 9 1 := ⟨_, _, Tryz.underlying116, rfl, rfl, rfl, Tryz.sizeOf9⟩
instance ckf124_0 : TyF Tryz.prog 124 0 0 3 1 := ⟨_, _, Tryz.underlying124, rfl, rfl, rfl, Tryz.sizeOf3⟩
instance ckf124_1 : TyF Tryz.prog 124 1 1 3 1 := ⟨_, _, Tryz.underlying124, rfl, rfl, rfl, Tryz.sizeOf3⟩
instance ckf124_2 : TyF Tryz.prog 124 2 2 3 1 := ⟨_, _, Tryz.underlying124, rfl, rfl, rfl, Tryz.sizeOf3⟩
instance ckf124_3 : TyF Tryz.prog 124 3 3 9 1 := ⟨_, _, Tryz.underlying124, rfl, rfl, rfl, Tryz.sizeOf9⟩
instance ckf124_4 : TyF Tryz.prog 124 4 4 9 1 := ⟨_, _, Tryz.underlying124, rfl, rfl, rfl, Tryz.sizeOf9⟩
instance ckf124_5 : TyF Tryz.prog 124 5 5 9 1 := ⟨_, _, Tryz.underlying124, rfl, rfl, rfl, Tryz.sizeOf9⟩
instance cku146 : TyU Tryz.prog 146 (Go.TypeDesc.array 16 5) := ⟨Tryz.underlying146⟩
instance cku167 : TyU Tryz.prog 167 (Go.TypeDesc.array 16 141) := ⟨Tryz.underlying167⟩
instance cku171 : TyU Tryz.prog 171 (Go.TypeDesc.array 5 136) := ⟨Tryz.underlying171⟩
instance cku172 : TyU Tryz.prog 172 (Go.TypeDesc.array 5 136) := ⟨Tryz.underlying172⟩
instance cku184 : TyU Tryz.prog 184 (Go.TypeDesc.array 34 3) := ⟨Tryz.underlying184⟩
instance cku188 : TyU Tryz.prog 188 (Go.TypeDesc.slice 141) := ⟨Tryz.underlying188⟩
instance cku193 : TyU Tryz.prog 193 (Go.TypeDesc.pointer 167) := ⟨Tryz.underlying193⟩
instance cku196 : TyU Tryz.prog 196 (Go.TypeDesc.array 17 5) := ⟨Tryz.underlying196⟩
instance cku202 : TyU Tryz.prog 202 (Go.TypeDesc.array 2 3) := ⟨Tryz.underlying202⟩
instance cku203 : TyU Tryz.prog 203 (Go.TypeDesc.array 2 202) := ⟨Tryz.underlying203⟩
instance cka26 : TyA Tryz.prog 26 true := ⟨Tryz.isAgg26⟩
instance cka28 : TyA Tryz.prog 28 true := ⟨Tryz.isAgg28⟩
instance cka29 : TyA Tryz.prog 29 false := ⟨Tryz.isAgg29⟩
instance cka30 : TyA Tryz.prog 30 false := ⟨Tryz.isAgg30⟩
instance cka36 : TyA Tryz.prog 36 true := ⟨Tryz.isAgg36⟩
instance cka39 : TyA Tryz.prog 39 true := ⟨Tryz.isAgg39⟩
instance cka41 : TyA Tryz.prog 41 true := ⟨Tryz.isAgg41⟩
instance cka64 : TyA Tryz.prog 64 false := ⟨Tryz.isAgg64⟩
instance cka65 : TyA Tryz.prog 65 false := ⟨Tryz.isAgg65⟩
instance cka67 : TyA Tryz.prog 67 true := ⟨Tryz.isAgg67⟩
instance cka103 : TyA Tryz.prog 103 false := ⟨Tryz.isAgg103⟩
instance cka104 : TyA Tryz.prog 104 false := ⟨Tryz.isAgg104⟩
instance cka105 : TyA Tryz.prog 105 false := ⟨Tryz.isAgg105⟩
instance cka107 : TyA Tryz.prog 107 true := ⟨Tryz.isAgg107⟩
instance cka114 : TyA Tryz.prog 114 true := ⟨Tryz.isAgg114⟩
instance cka116 : TyA Tryz.prog 116 true := ⟨Tryz.isAgg116⟩
instance cka124 : TyA Tryz.prog 124 true := ⟨Tryz.isAgg124⟩
instance cka146 : TyA Tryz.prog 146 true := ⟨Tryz.isAgg146⟩
instance cka167 : TyA Tryz.prog 167 true := ⟨Tryz.isAgg167⟩
instance cka171 : TyA Tryz.prog 171 true := ⟨Tryz.isAgg171⟩
instance cka172 : TyA Tryz.prog 172 true := ⟨Tryz.isAgg172⟩
instance cka184 : TyA Tryz.prog 184 true := ⟨Tryz.isAgg184⟩
instance cka188 : TyA Tryz.prog 188 false := ⟨Tryz.isAgg188⟩
instance cka193 : TyA Tryz.prog 193 false := ⟨Tryz.isAgg193⟩
instance cka196 : TyA Tryz.prog 196 true := ⟨Tryz.isAgg196⟩
instance cka202 : TyA Tryz.prog 202 true := ⟨Tryz.isAgg202⟩
instance cka203 : TyA Tryz.prog 203 true := ⟨Tryz.isAgg203⟩
instance cks26 : TyS Tryz.prog 26 8 := ⟨Tryz.sizeOf26⟩
instance cks28 : TyS Tryz.prog 28 7 := ⟨Tryz.sizeOf28⟩
instance cks29 : TyS Tryz.prog 29 1 := ⟨Tryz.sizeOf29⟩
instance cks30 : TyS Tryz.prog 30 1 := ⟨Tryz.sizeOf30⟩
instance cks36 : TyS Tryz.prog 36 5 := ⟨Tryz.sizeOf36⟩
instance cks39 : TyS Tryz.prog 39 32 := ⟨Tryz.sizeOf39⟩
instance cks41 : TyS Tryz.prog 41 38 := ⟨Tryz.sizeOf41⟩
instance cks64 : TyS Tryz.prog 64 1 := ⟨Tryz.sizeOf64⟩
instance cks65 : TyS Tryz.prog 65 1 := ⟨Tryz.sizeOf65⟩
instance cks67 : TyS Tryz.prog 67 4 := ⟨Tryz.sizeOf67⟩
instance cks103 : TyS Tryz.prog 103 1 := ⟨Tryz.sizeOf103⟩
instance cks104 : TyS Tryz.prog 104 1 := ⟨Tryz.sizeOf104⟩
instance cks105 : TyS Tryz.prog 105 1 := ⟨Tryz.sizeOf105⟩
instance cks107 : TyS Tryz.prog 107 36 := ⟨Tryz.sizeOf107⟩
instance cks114 : TyS Tryz.prog 114 2 := ⟨Tryz.sizeOf114⟩
instance cks116 : TyS Tryz.prog 116 5 := ⟨Tryz.sizeOf116⟩
instance cks124 : TyS Tryz.prog 124 6 := ⟨Tryz.sizeOf124⟩
instance cks146 : TyS Tryz.prog 146 16 := ⟨Tryz.sizeOf146⟩
instance cks167 : TyS Tryz.prog 167 16 := ⟨Tryz.sizeOf167⟩
instance cks171 : TyS Tryz.prog 171 5 := ⟨Tryz.sizeOf171⟩
instance cks172 : TyS Tryz.prog 172 5 := ⟨Tryz.sizeOf172⟩
instance cks184 : TyS Tryz.prog 184 34 := ⟨Tryz.sizeOf184⟩
instance cks188 : TyS Tryz.prog 188 1 := ⟨Tryz.sizeOf188⟩
instance cks193 : TyS Tryz.prog 193 1 := ⟨Tryz.sizeOf193⟩
instance cks196 : TyS Tryz.prog 196 17 := ⟨Tryz.sizeOf196⟩
instance cks202 : TyS Tryz.prog 202 2 := ⟨Tryz.sizeOf202⟩
instance cks203 : TyS Tryz.prog 203 4 := ⟨Tryz.sizeOf203⟩
instance ckz26 : TyZ Tryz.prog 26 (Go.Value.agg #[Go.Value.slice none 0 0, Go.Value.int Go.IntKind.i64 0, Go.Value.int Go.IntKind.i64 0, Go.Value.int Go.IntKind.i64 0, Go.Value.int Go.IntKind.i64 0, Go.Value.slice none 0 0, Go.Value.slice none 0 0, Go.Value.bool false]) := ⟨Tryz.zeroValue26⟩
instance ckz28 : TyZ Tryz.prog 28 (Go.Value.agg #[Go.Value.string { data := #[] }, Go.Value.int Go.IntKind.i64 0, Go.Value.int Go.IntKind.i64 0, Go.Value.int Go.IntKind.i64 0, Go.Value.int Go.IntKind.i64 0, Go.Value.string { data := #[] }, Go.Value.string { data := #[] }]) := ⟨Tryz.zeroValue28⟩
instance ckz29 : TyZ Tryz.prog 29 (Go.Value.pointer none) := ⟨Tryz.zeroValue29⟩
instance ckz30 : TyZ Tryz.prog 30 (Go.Value.pointer none) := ⟨Tryz.zeroValue30⟩
instance ckz36 : TyZ Tryz.prog 36 (Go.Value.agg #[Go.Value.int Go.IntKind.i64 0, Go.Value.int Go.IntKind.i64 0, Go.Value.int Go.IntKind.i64 0, Go.Value.int Go.IntKind.i64 0, Go.Value.slice none 0 0]) := ⟨Tryz.zeroValue36⟩
instance ckz39 : TyZ Tryz.prog 39 (Go.Value.agg #[Go.Value.int Go.IntKind.u8 0, Go.Value.int Go.IntKind.u8 0, Go.Value.int Go.IntKind.u8 0, Go.Value.int Go.IntKind.u8 0, Go.Value.int Go.IntKind.u8 0, Go.Value.int Go.IntKind.u8 0, Go.Value.int Go.IntKind.u8 0, Go.Value.int Go.IntKind.u8 0, Go.Value.int Go.IntKind.u8 0, Go.Value.int Go.IntKind.u8 0, Go.Value.int Go.IntKind.u8 0, Go.Value.int Go.IntKind.u8 0, Go.Value.int Go.IntKind.u8 0, Go.Value.int Go.IntKind.u8 0, Go.Value.int Go.IntKind.u8 0, Go.Value.int Go.IntKind.u8 0, Go.Value.int Go.IntKind.u8 0, Go.Value.int Go.IntKind.u8 0, Go.Value.int Go.IntKind.u8 0, Go.Value.int Go.IntKind.u8 0, Go.Value.int Go.IntKind.u8 0, Go.Value.int Go.IntKind.u8 0, Go.Value.int Go.IntKind.u8 0, Go.Value.int Go.IntKind.u8 0, Go.Value.int Go.IntKind.u8 0, Go.Value.int Go.IntKind.u8 0, Go.Value.int Go.IntKind.u8 0, Go.Value.int Go.IntKind.u8 0, Go.Value.int Go.IntKind.u8 0, Go.Value.int Go.IntKind.u8 0, Go.Value.int Go.IntKind.u8 0, Go.Value.int Go.IntKind.u8 0]) := ⟨Tryz.zeroValue39⟩
instance ckz41 : TyZ Tryz.prog 41 (Go.Value.agg #[Go.Value.int Go.IntKind.u8 0, Go.Value.int Go.IntKind.u8 0, Go.Value.int Go.IntKind.u8 0, Go.Value.int Go.IntKind.u8 0, Go.Value.int Go.IntKind.u8 0, Go.Value.int Go.IntKind.u8 0, Go.Value.int Go.IntKind.u8 0, Go.Value.int Go.IntKind.u8 0, Go.Value.int Go.IntKind.u8 0, Go.Value.int Go.IntKind.u8 0, Go.Value.int Go.IntKind.u8 0, Go.Value.int Go.IntKind.u8 0, Go.Value.int Go.IntKind.u8 0, Go.Value.int Go.IntKind.u8 0, Go.Value.int Go.IntKind.u8 0, Go.Value.int Go.IntKind.u8 0, Go.Value.int Go.IntKind.u8 0, Go.Value.int Go.IntKind.u8 0, Go.Value.int Go.IntKind.u8 0, Go.Value.int Go.IntKind.u8 0, Go.Value.int Go.IntKind.u8 0, Go.Value.int Go.IntKind.u8 0, Go.Value.int Go.IntKind.u8 0, Go.Value.int Go.IntKind.u8 0, Go.Value.int Go.IntKind.u8 0, Go.Value.int Go.IntKind.u8 0, Go.Value.int Go.IntKind.u8 0, Go.Value.int Go.IntKind.u8 0, Go.Value.int Go.IntKind.u8 0, Go.Value.int Go.IntKind.u8 0, Go.Value.int Go.IntKind.u8 0, Go.Value.int Go.IntKind.u8 0, Go.Value.int Go.IntKind.i64 0, Go.Value.int Go.IntKind.i64 0, Go.Value.int Go.IntKind.i64 0, Go.Value.int Go.IntKind.i64 0, Go.Value.slice none 0 0, Go.Value.slice none 0 0]) := ⟨Tryz.zeroValue41⟩
instance ckz64 : TyZ Tryz.prog 64 (Go.Value.slice none 0 0) := ⟨Tryz.zeroValue64⟩
instance ckz65 : TyZ Tryz.prog 65 (Go.Value.slice none 0 0) := ⟨Tryz.zeroValue65⟩
instance ckz67 : TyZ Tryz.prog 67 (Go.Value.agg #[Go.Value.bool false, Go.Value.string { data := #[] }, Go.Value.slice none 0 0, Go.Value.slice none 0 0]) := ⟨Tryz.zeroValue67⟩
instance ckz103 : TyZ Tryz.prog 103 (Go.Value.map none) := ⟨Tryz.zeroValue103⟩
instance ckz104 : TyZ Tryz.prog 104 (Go.Value.map none) := ⟨Tryz.zeroValue104⟩
instance ckz105 : TyZ Tryz.prog 105 (Go.Value.map none) := ⟨Tryz.zeroValue105⟩
instance ckz107 : TyZ Tryz.prog 107 (Go.Value.agg #[Go.Value.bool false, Go.Value.int Go.IntKind.u8 0, Go.Value.int Go.IntKind.u8 0, Go.Value.int Go.IntKind.u8 0, Go.Value.int Go.IntKind.u8 0, Go.Value.int Go.IntKind.u8 0, Go.Value.int Go.IntKind.u8 0, Go.Value.int Go.IntKind.u8 0, Go.Value.int Go.IntKind.u8 0, Go.Value.int Go.IntKind.u8 0, Go.Value.int Go.IntKind.u8 0, Go.Value.int Go.IntKind.u8 0, Go.Value.int Go.IntKind.u8 0, Go.Value.int Go.IntKind.u8 0, Go.Value.int Go.IntKind.u8 0, Go.Value.int Go.IntKind.u8 0, Go.Value.int Go.IntKind.u8 0, Go.Value.int Go.IntKind.u8 0, Go.Value.int Go.IntKind.u8 0, Go.Value.int Go.IntKind.u8 0, Go.Value.int Go.IntKind.u8 0, Go.Value.int Go.IntKind.u8 0, Go.Value.int Go.IntKind.u8 0, Go.Value.int Go.IntKind.u8 0, Go.Value.int Go.IntKind.u8 0, Go.Value.int Go.IntKind.u8 0, Go.Value.int Go.IntKind.u8 0, Go.Value.int Go.IntKind.u8 0, Go.Value.int Go.IntKind.u8 0, Go.Value.int Go.IntKind.u8 0, Go.Value.int Go.IntKind.u8 0, Go.Value.int Go.IntKind.u8 0, Go.Value.int Go.IntKind.u8 0, Go.Value.map none, Go.Value.map none, Go.Value.map none]) := ⟨Tryz.zeroValue107⟩
instance ckz114 : TyZ Tryz.prog 114 (Go.Value.agg #[Go.Value.int Go.IntKind.i64 0, Go.Value.int Go.IntKind.i64 0]) := ⟨Tryz.zeroValue114⟩
instance ckz116 : TyZ Tryz.prog 116 (Go.Value.agg #[Go.Value.int Go.IntKind.i64 0, Go.Value.int Go.IntKind.i64 0, Go.Value.int Go.IntKind.i64 0, Go.Value.string { data := #[] }, Go.Value.string { data := #[] }]) := ⟨Tryz.zeroValue116⟩
instance ckz124 : TyZ Tryz.prog 124 (Go.Value.agg #[Go.Value.int Go.IntKind.i64 0, Go.Value.int Go.IntKind.i64 0, Go.Value.int Go.IntKind.i64 0, Go.Value.string { data := #[] }, Go.Value.string { data := #[] }, Go.Value.string { data := #[] }]) := ⟨Tryz.zeroValue124⟩
instance ckz146 : TyZ Tryz.prog 146 (Go.Value.agg #[Go.Value.int Go.IntKind.u8 0, Go.Value.int Go.IntKind.u8 0, Go.Value.int Go.IntKind.u8 0, Go.Value.int Go.IntKind.u8 0, Go.Value.int Go.IntKind.u8 0, Go.Value.int Go.IntKind.u8 0, Go.Value.int Go.IntKind.u8 0, Go.Value.int Go.IntKind.u8 0, Go.Value.int Go.IntKind.u8 0, Go.Value.int Go.IntKind.u8 0, Go.Value.int Go.IntKind.u8 0, Go.Value.int Go.IntKind.u8 0, Go.Value.int Go.IntKind.u8 0, Go.Value.int Go.IntKind.u8 0, Go.Value.int Go.IntKind.u8 0, Go.Value.int Go.IntKind.u8 0]) := ⟨Tryz.zeroValue146⟩
instance ckz167 : TyZ Tryz.prog 167 (Go.Value.agg #[Go.Value.int Go.IntKind.u32 0, Go.Value.int Go.IntKind.u32 0, Go.Value.int Go.IntKind.u32 0, Go.Value.int Go.IntKind.u32 0, Go.Value.int Go.IntKind.u32 0, Go.Value.int Go.IntKind.u32 0, Go.Value.int Go.IntKind.u32 0, Go.Value.int Go.IntKind.u32 0, Go.Value.int Go.IntKind.u32 0, Go.Value.int Go.IntKind.u32 0, Go.Value.int Go.IntKind.u32 0, Go.Value.int Go.IntKind.u32 0, Go.Value.int Go.IntKind.u32 0, Go.Value.int Go.IntKind.u32 0, Go.Value.int Go.IntKind.u32 0, Go.Value.int Go.IntKind.u32 0]) := ⟨Tryz.zeroValue167⟩
instance ckz171 : TyZ Tryz.prog 171 (Go.Value.agg #[Go.Value.int Go.IntKind.u64 0, Go.Value.int Go.IntKind.u64 0, Go.Value.int Go.IntKind.u64 0, Go.Value.int Go.IntKind.u64 0, Go.Value.int Go.IntKind.u64 0]) := ⟨Tryz.zeroValue171⟩
instance ckz172 : TyZ Tryz.prog 172 (Go.Value.agg #[Go.Value.int Go.IntKind.u64 0, Go.Value.int Go.IntKind.u64 0, Go.Value.int Go.IntKind.u64 0, Go.Value.int Go.IntKind.u64 0, Go.Value.int Go.IntKind.u64 0]) := ⟨Tryz.zeroValue172⟩
instance ckz184 : TyZ Tryz.prog 184 (Go.Value.agg #[Go.Value.int Go.IntKind.i64 0, Go.Value.int Go.IntKind.i64 0, Go.Value.int Go.IntKind.i64 0, Go.Value.int Go.IntKind.i64 0, Go.Value.int Go.IntKind.i64 0, Go.Value.int Go.IntKind.i64 0, Go.Value.int Go.IntKind.i64 0, Go.Value.int Go.IntKind.i64 0, Go.Value.int Go.IntKind.i64 0, Go.Value.int Go.IntKind.i64 0, Go.Value.int Go.IntKind.i64 0, Go.Value.int Go.IntKind.i64 0, Go.Value.int Go.IntKind.i64 0, Go.Value.int Go.IntKind.i64 0, Go.Value.int Go.IntKind.i64 0, Go.Value.int Go.IntKind.i64 0, Go.Value.int Go.IntKind.i64 0, Go.Value.int Go.IntKind.i64 0, Go.Value.int Go.IntKind.i64 0, Go.Value.int Go.IntKind.i64 0, Go.Value.int Go.IntKind.i64 0, Go.Value.int Go.IntKind.i64 0, Go.Value.int Go.IntKind.i64 0, Go.Value.int Go.IntKind.i64 0, Go.Value.int Go.IntKind.i64 0, Go.Value.int Go.IntKind.i64 0, Go.Value.int Go.IntKind.i64 0, Go.Value.int Go.IntKind.i64 0, Go.Value.int Go.IntKind.i64 0, Go.Value.int Go.IntKind.i64 0, Go.Value.int Go.IntKind.i64 0, Go.Value.int Go.IntKind.i64 0, Go.Value.int Go.IntKind.i64 0, Go.Value.int Go.IntKind.i64 0]) := ⟨Tryz.zeroValue184⟩
instance ckz188 : TyZ Tryz.prog 188 (Go.Value.slice none 0 0) := ⟨Tryz.zeroValue188⟩
instance ckz193 : TyZ Tryz.prog 193 (Go.Value.pointer none) := ⟨Tryz.zeroValue193⟩
instance ckz196 : TyZ Tryz.prog 196 (Go.Value.agg #[Go.Value.int Go.IntKind.u8 0, Go.Value.int Go.IntKind.u8 0, Go.Value.int Go.IntKind.u8 0, Go.Value.int Go.IntKind.u8 0, Go.Value.int Go.IntKind.u8 0, Go.Value.int Go.IntKind.u8 0, Go.Value.int Go.IntKind.u8 0, Go.Value.int Go.IntKind.u8 0, Go.Value.int Go.IntKind.u8 0, Go.Value.int Go.IntKind.u8 0, Go.Value.int Go.IntKind.u8 0, Go.Value.int Go.IntKind.u8 0, Go.Value.int Go.IntKind.u8 0, Go.Value.int Go.IntKind.u8 0, Go.Value.int Go.IntKind.u8 0, Go.Value.int Go.IntKind.u8 0, Go.Value.int Go.IntKind.u8 0]) := ⟨Tryz.zeroValue196⟩
instance ckz202 : TyZ Tryz.prog 202 (Go.Value.agg #[Go.Value.int Go.IntKind.i64 0, Go.Value.int Go.IntKind.i64 0]) := ⟨Tryz.zeroValue202⟩
instance ckz203 : TyZ Tryz.prog 203 (Go.Value.agg #[Go.Value.int Go.IntKind.i64 0, Go.Value.int Go.IntKind.i64 0, Go.Value.int Go.IntKind.i64 0, Go.Value.int Go.IntKind.i64 0]) := ⟨Tryz.zeroValue203⟩
instance ckb26 : TyB Tryz.prog 26 (Go.Value.agg #[Go.Value.slice none 0 0, Go.Value.int Go.IntKind.i64 0, Go.Value.int Go.IntKind.i64 0, Go.Value.int Go.IntKind.i64 0, Go.Value.int Go.IntKind.i64 0, Go.Value.slice none 0 0, Go.Value.slice none 0 0, Go.Value.bool false]) 8 112 := ⟨by kernel_rfl⟩
instance ckb28 : TyB Tryz.prog 28 (Go.Value.agg #[Go.Value.string { data := #[] }, Go.Value.int Go.IntKind.i64 0, Go.Value.int Go.IntKind.i64 0, Go.Value.int Go.IntKind.i64 0, Go.Value.int Go.IntKind.i64 0, Go.Value.string { data := #[] }, Go.Value.string { data := #[] }]) 7 80 := ⟨by kernel_rfl⟩
instance ckb29 : TyB Tryz.prog 29 (Go.Value.pointer none) 1 8 := ⟨by kernel_rfl⟩
instance ckb30 : TyB Tryz.prog 30 (Go.Value.pointer none) 1 8 := ⟨by kernel_rfl⟩
instance ckb36 : TyB Tryz.prog 36 (Go.Value.agg #[Go.Value.int Go.IntKind.i64 0, Go.Value.int Go.IntKind.i64 0, Go.Value.int Go.IntKind.i64 0, Go.Value.int Go.IntKind.i64 0, Go.Value.slice none 0 0]) 5 56 := ⟨by kernel_rfl⟩
instance ckb39 : TyB Tryz.prog 39 (Go.Value.agg #[Go.Value.int Go.IntKind.u8 0, Go.Value.int Go.IntKind.u8 0, Go.Value.int Go.IntKind.u8 0, Go.Value.int Go.IntKind.u8 0, Go.Value.int Go.IntKind.u8 0, Go.Value.int Go.IntKind.u8 0, Go.Value.int Go.IntKind.u8 0, Go.Value.int Go.IntKind.u8 0, Go.Value.int Go.IntKind.u8 0, Go.Value.int Go.IntKind.u8 0, Go.Value.int Go.IntKind.u8 0, Go.Value.int Go.IntKind.u8 0, Go.Value.int Go.IntKind.u8 0, Go.Value.int Go.IntKind.u8 0, Go.Value.int Go.IntKind.u8 0, Go.Value.int Go.IntKind.u8 0, Go.Value.int Go.IntKind.u8 0, Go.Value.int Go.IntKind.u8 0, Go.Value.int Go.IntKind.u8 0, Go.Value.int Go.IntKind.u8 0, Go.Value.int Go.IntKind.u8 0, Go.Value.int Go.IntKind.u8 0, Go.Value.int Go.IntKind.u8 0, Go.Value.int Go.IntKind.u8 0, Go.Value.int Go.IntKind.u8 0, Go.Value.int Go.IntKind.u8 0, Go.Value.int Go.IntKind.u8 0, Go.Value.int Go.IntKind.u8 0, Go.Value.int Go.IntKind.u8 0, Go.Value.int Go.IntKind.u8 0, Go.Value.int Go.IntKind.u8 0, Go.Value.int Go.IntKind.u8 0]) 32 32 := ⟨by kernel_rfl⟩
instance ckb41 : TyB Tryz.prog 41 (Go.Value.agg #[Go.Value.int Go.IntKind.u8 0, Go.Value.int Go.IntKind.u8 0, Go.Value.int Go.IntKind.u8 0, Go.Value.int Go.IntKind.u8 0, Go.Value.int Go.IntKind.u8 0, Go.Value.int Go.IntKind.u8 0, Go.Value.int Go.IntKind.u8 0, Go.Value.int Go.IntKind.u8 0, Go.Value.int Go.IntKind.u8 0, Go.Value.int Go.IntKind.u8 0, Go.Value.int Go.IntKind.u8 0, Go.Value.int Go.IntKind.u8 0, Go.Value.int Go.IntKind.u8 0, Go.Value.int Go.IntKind.u8 0, Go.Value.int Go.IntKind.u8 0, Go.Value.int Go.IntKind.u8 0, Go.Value.int Go.IntKind.u8 0, Go.Value.int Go.IntKind.u8 0, Go.Value.int Go.IntKind.u8 0, Go.Value.int Go.IntKind.u8 0, Go.Value.int Go.IntKind.u8 0, Go.Value.int Go.IntKind.u8 0, Go.Value.int Go.IntKind.u8 0, Go.Value.int Go.IntKind.u8 0, Go.Value.int Go.IntKind.u8 0, Go.Value.int Go.IntKind.u8 0, Go.Value.int Go.IntKind.u8 0, Go.Value.int Go.IntKind.u8 0, Go.Value.int Go.IntKind.u8 0, Go.Value.int Go.IntKind.u8 0, Go.Value.int Go.IntKind.u8 0, Go.Value.int Go.IntKind.u8 0, Go.Value.int Go.IntKind.i64 0, Go.Value.int Go.IntKind.i64 0, Go.Value.int Go.IntKind.i64 0, Go.Value.int Go.IntKind.i64 0, Go.Value.slice none 0 0, Go.Value.slice none 0 0]) 38 112 := ⟨by kernel_rfl⟩
instance ckb64 : TyB Tryz.prog 64 (Go.Value.slice none 0 0) 1 24 := ⟨by kernel_rfl⟩
instance ckb65 : TyB Tryz.prog 65 (Go.Value.slice none 0 0) 1 24 := ⟨by kernel_rfl⟩
instance ckb67 : TyB Tryz.prog 67 (Go.Value.agg #[Go.Value.bool false, Go.Value.string { data := #[] }, Go.Value.slice none 0 0, Go.Value.slice none 0 0]) 4 72 := ⟨by kernel_rfl⟩
instance ckb103 : TyB Tryz.prog 103 (Go.Value.map none) 1 8 := ⟨by kernel_rfl⟩
instance ckb104 : TyB Tryz.prog 104 (Go.Value.map none) 1 8 := ⟨by kernel_rfl⟩
instance ckb105 : TyB Tryz.prog 105 (Go.Value.map none) 1 8 := ⟨by kernel_rfl⟩
instance ckb107 : TyB Tryz.prog 107 (Go.Value.agg #[Go.Value.bool false, Go.Value.int Go.IntKind.u8 0, Go.Value.int Go.IntKind.u8 0, Go.Value.int Go.IntKind.u8 0, Go.Value.int Go.IntKind.u8 0, Go.Value.int Go.IntKind.u8 0, Go.Value.int Go.IntKind.u8 0, Go.Value.int Go.IntKind.u8 0, Go.Value.int Go.IntKind.u8 0, Go.Value.int Go.IntKind.u8 0, Go.Value.int Go.IntKind.u8 0, Go.Value.int Go.IntKind.u8 0, Go.Value.int Go.IntKind.u8 0, Go.Value.int Go.IntKind.u8 0, Go.Value.int Go.IntKind.u8 0, Go.Value.int Go.IntKind.u8 0, Go.Value.int Go.IntKind.u8 0, Go.Value.int Go.IntKind.u8 0, Go.Value.int Go.IntKind.u8 0, Go.Value.int Go.IntKind.u8 0, Go.Value.int Go.IntKind.u8 0, Go.Value.int Go.IntKind.u8 0, Go.Value.int Go.IntKind.u8 0, Go.Value.int Go.IntKind.u8 0, Go.Value.int Go.IntKind.u8 0, Go.Value.int Go.IntKind.u8 0, Go.Value.int Go.IntKind.u8 0, Go.Value.int Go.IntKind.u8 0, Go.Value.int Go.IntKind.u8 0, Go.Value.int Go.IntKind.u8 0, Go.Value.int Go.IntKind.u8 0, Go.Value.int Go.IntKind.u8 0, Go.Value.int Go.IntKind.u8 0, Go.Value.map none, Go.Value.map none, Go.Value.map none]) 36 64 := ⟨by kernel_rfl⟩
instance ckb114 : TyB Tryz.prog 114 (Go.Value.agg #[Go.Value.int Go.IntKind.i64 0, Go.Value.int Go.IntKind.i64 0]) 2 16 := ⟨by kernel_rfl⟩
instance ckb116 : TyB Tryz.prog 116 (Go.Value.agg #[Go.Value.int Go.IntKind.i64 0, Go.Value.int Go.IntKind.i64 0, Go.Value.int Go.IntKind.i64 0, Go.Value.string { data := #[] }, Go.Value.string { data := #[] }]) 5 56 := ⟨by kernel_rfl⟩
instance ckb124 : TyB Tryz.prog 124 (Go.Value.agg #[Go.Value.int Go.IntKind.i64 0, Go.Value.int Go.IntKind.i64 0, Go.Value.int Go.IntKind.i64 0, Go.Value.string { data := #[] }, Go.Value.string { data := #[] }, Go.Value.string { data := #[] }]) 6 72 := ⟨by kernel_rfl⟩
instance ckb146 : TyB Tryz.prog 146 (Go.Value.agg #[Go.Value.int Go.IntKind.u8 0, Go.Value.int Go.IntKind.u8 0, Go.Value.int Go.IntKind.u8 0, Go.Value.int Go.IntKind.u8 0, Go.Value.int Go.IntKind.u8 0, Go.Value.int Go.IntKind.u8 0, Go.Value.int Go.IntKind.u8 0, Go.Value.int Go.IntKind.u8 0, Go.Value.int Go.IntKind.u8 0, Go.Value.int Go.IntKind.u8 0, Go.Value.int Go.IntKind.u8 0, Go.Value.int Go.IntKind.u8 0, Go.Value.int Go.IntKind.u8 0, Go.Value.int Go.IntKind.u8 0, Go.Value.int Go.IntKind.u8 0, Go.Value.int Go.IntKind.u8 0]) 16 16 := ⟨by kernel_rfl⟩
instance ckb167 : TyB Tryz.prog 167 (Go.Value.agg #[Go.Value.int Go.IntKind.u32 0, Go.Value.int Go.IntKind.u32 0, Go.Value.int Go.IntKind.u32 0, Go.Value.int Go.IntKind.u32 0, Go.Value.int Go.IntKind.u32 0, Go.Value.int Go.IntKind.u32 0, Go.Value.int Go.IntKind.u32 0, Go.Value.int Go.IntKind.u32 0, Go.Value.int Go.IntKind.u32 0, Go.Value.int Go.IntKind.u32 0, Go.Value.int Go.IntKind.u32 0, Go.Value.int Go.IntKind.u32 0, Go.Value.int Go.IntKind.u32 0, Go.Value.int Go.IntKind.u32 0, Go.Value.int Go.IntKind.u32 0, Go.Value.int Go.IntKind.u32 0]) 16 64 := ⟨by kernel_rfl⟩
instance ckb171 : TyB Tryz.prog 171 (Go.Value.agg #[Go.Value.int Go.IntKind.u64 0, Go.Value.int Go.IntKind.u64 0, Go.Value.int Go.IntKind.u64 0, Go.Value.int Go.IntKind.u64 0, Go.Value.int Go.IntKind.u64 0]) 5 40 := ⟨by kernel_rfl⟩
instance ckb172 : TyB Tryz.prog 172 (Go.Value.agg #[Go.Value.int Go.IntKind.u64 0, Go.Value.int Go.IntKind.u64 0, Go.Value.int Go.IntKind.u64 0, Go.Value.int Go.IntKind.u64 0, Go.Value.int Go.IntKind.u64 0]) 5 40 := ⟨by kernel_rfl⟩
instance ckb184 : TyB Tryz.prog 184 (Go.Value.agg #[Go.Value.int Go.IntKind.i64 0, Go.Value.int Go.IntKind.i64 0, Go.Value.int Go.IntKind.i64 0, Go.Value.int Go.IntKind.i64 0, Go.Value.int Go.IntKind.i64 0, Go.Value.int Go.IntKind.i64 0, Go.Value.int Go.IntKind.i64 0, Go.Value.int Go.IntKind.i64 0, Go.Value.int Go.IntKind.i64 0, Go.Value.int Go.IntKind.i64 0, Go.Value.int Go.IntKind.i64 0, Go.Value.int Go.IntKind.i64 0, Go.Value.int Go.IntKind.i64 0, Go.Value.int Go.IntKind.i64 0, Go.Value.int Go.IntKind.i64 0, Go.Value.int Go.IntKind.i64 0, Go.Value.int Go.IntKind.i64 0, Go.Value.int Go.IntKind.i64 0, Go.Value.int Go.IntKind.i64 0, Go.Value.int Go.IntKind.i64 0, Go.Value.int Go.IntKind.i64 0, Go.Value.int Go.IntKind.i64 0, Go.Value.int Go.IntKind.i64 0, Go.Value.int Go.IntKind.i64 0, Go.Value.int Go.IntKind.i64 0, Go.Value.int Go.IntKind.i64 0, Go.Value.int Go.IntKind.i64 0, Go.Value.int Go.IntKind.i64 0, Go.Value.int Go.IntKind.i64 0, Go.Value.int Go.IntKind.i64 0, Go.Value.int Go.IntKind.i64 0, Go.Value.int Go.IntKind.i64 0, Go.Value.int Go.IntKind.i64 0, Go.Value.int Go.IntKind.i64 0]) 34 272 := ⟨by kernel_rfl⟩
instance ckb188 : TyB Tryz.prog 188 (Go.Value.slice none 0 0) 1 24 := ⟨by kernel_rfl⟩
instance ckb193 : TyB Tryz.prog 193 (Go.Value.pointer none) 1 8 := ⟨by kernel_rfl⟩
instance ckb196 : TyB Tryz.prog 196 (Go.Value.agg #[Go.Value.int Go.IntKind.u8 0, Go.Value.int Go.IntKind.u8 0, Go.Value.int Go.IntKind.u8 0, Go.Value.int Go.IntKind.u8 0, Go.Value.int Go.IntKind.u8 0, Go.Value.int Go.IntKind.u8 0, Go.Value.int Go.IntKind.u8 0, Go.Value.int Go.IntKind.u8 0, Go.Value.int Go.IntKind.u8 0, Go.Value.int Go.IntKind.u8 0, Go.Value.int Go.IntKind.u8 0, Go.Value.int Go.IntKind.u8 0, Go.Value.int Go.IntKind.u8 0, Go.Value.int Go.IntKind.u8 0, Go.Value.int Go.IntKind.u8 0, Go.Value.int Go.IntKind.u8 0, Go.Value.int Go.IntKind.u8 0]) 17 17 := ⟨by kernel_rfl⟩
instance ckb202 : TyB Tryz.prog 202 (Go.Value.agg #[Go.Value.int Go.IntKind.i64 0, Go.Value.int Go.IntKind.i64 0]) 2 16 := ⟨by kernel_rfl⟩
instance ckb203 : TyB Tryz.prog 203 (Go.Value.agg #[Go.Value.int Go.IntKind.i64 0, Go.Value.int Go.IntKind.i64 0, Go.Value.int Go.IntKind.i64 0, Go.Value.int Go.IntKind.i64 0]) 4 32 := ⟨by kernel_rfl⟩
instance ckp26 : TyP Tryz.prog 26 [(0, 1), (1, 1), (2, 1), (3, 2), (5, 1), (6, 1), (7, 1)] := ⟨_, Tryz.underlying26, fun w => by simp [Tryz.sizeOf3, Tryz.sizeOf4, Tryz.sizeOf22, Tryz.sizeOf24]⟩
instance ckp28 : TyP Tryz.prog 28 [(0, 1), (1, 1), (2, 1), (3, 2), (5, 1), (6, 1)] := ⟨_, Tryz.underlying28, fun w => by simp [Tryz.sizeOf3, Tryz.sizeOf9, Tryz.sizeOf24]⟩
instance ckp36 : TyP Tryz.prog 36 [(0, 1), (1, 1), (2, 2), (4, 1)] := ⟨_, Tryz.underlying36, fun w => by simp [Tryz.sizeOf3, Tryz.sizeOf22, Tryz.sizeOf24]⟩
instance ckp41 : TyP Tryz.prog 41 [(0, 32), (32, 5), (37, 1)] := ⟨_, Tryz.underlying41, fun w => by simp [Tryz.sizeOf22, Tryz.sizeOf36, Tryz.sizeOf39]⟩
instance ckp67 : TyP Tryz.prog 67 [(0, 1), (1, 1), (2, 1), (3, 1)] := ⟨_, Tryz.underlying67, fun w => by simp [Tryz.sizeOf4, Tryz.sizeOf9, Tryz.sizeOf64, Tryz.sizeOf65]⟩
instance ckp107 : TyP Tryz.prog 107 [(0, 1), (1, 32), (33, 1), (34, 1), (35, 1)] := ⟨_, Tryz.underlying107, fun w => by simp [Tryz.sizeOf4, Tryz.sizeOf33, Tryz.sizeOf103, Tryz.sizeOf104, Tryz.sizeOf105]⟩
instance ckp114 : TyP Tryz.prog 114 [(0, 1), (1, 1)] := ⟨_, Tryz.underlying114, fun w => by simp [Tryz.sizeOf3]⟩
instance ckp116 : TyP Tryz.prog 116 [(0, 2), (2, 1), (3, 1), (4, 1)] := ⟨_, Tryz.underlying116, fun w => by simp [Tryz.sizeOf3, Tryz.sizeOf9, Tryz.sizeOf114]⟩
instance ckp124 : TyP Tryz.prog 124 [(0, 1), (1, 1), (2, 1), (3, 1), (4, 1), (5, 1)] := ⟨_, Tryz.underlying124, fun w => by simp [Tryz.sizeOf3, Tryz.sizeOf9]⟩
instance ckg28 : TyG Tryz.prog 28 := ⟨Tryz.eqGuardType28⟩
instance ckg202 : TyG Tryz.prog 202 := ⟨Tryz.eqGuardType202⟩
instance ckg39 : TyG Tryz.prog 39 := ⟨Tryz.eqGuardType39⟩
instance ckg114 : TyG Tryz.prog 114 := ⟨Tryz.eqGuardType114⟩
instance ckg36 : TyG Tryz.prog 36 := ⟨Tryz.eqGuardType36⟩
instance ckg41 : TyG Tryz.prog 41 := ⟨Tryz.eqGuardType41⟩
instance ckg116 : TyG Tryz.prog 116 := ⟨Tryz.eqGuardType116⟩
instance ckg107 : TyG Tryz.prog 107 := ⟨Tryz.eqGuardType107⟩
instance ckg171 : TyG Tryz.prog 171 := ⟨Tryz.eqGuardType171⟩
instance ckg167 : TyG Tryz.prog 167 := ⟨Tryz.eqGuardType167⟩
instance ckg196 : TyG Tryz.prog 196 := ⟨Tryz.eqGuardType196⟩
instance ckg67 : TyG Tryz.prog 67 := ⟨Tryz.eqGuardType67⟩
instance ckg124 : TyG Tryz.prog 124 := ⟨Tryz.eqGuardType124⟩
instance ckg146 : TyG Tryz.prog 146 := ⟨Tryz.eqGuardType146⟩
instance ckg26 : TyG Tryz.prog 26 := ⟨Tryz.eqGuardType26⟩
instance ckg203 : TyG Tryz.prog 203 := ⟨Tryz.eqGuardType203⟩
instance ckg184 : TyG Tryz.prog 184 := ⟨Tryz.eqGuardType184⟩
instance ckg172 : TyG Tryz.prog 172 := ⟨Tryz.eqGuardType172⟩
end Go.Proofs.YtgeepceieckooaaGreatDoor
end

section
namespace Go.Ck
open Go
set_option linter.unusedVariables false
theorem tq_ {p : Prop} (h : p := by (first|(apply yaa;rfl)|(apply yab;rfl)|(apply yac<;>rfl)|(apply yae;(·rfl);(·(first|exact yay 0 rfl rfl|exact yay 1 rfl rfl|exact yay 2 rfl rfl|exact yay 3 rfl rfl|exact yay 4 rfl rfl|exact yay 5 rfl rfl)))|(apply yad;(·rfl);(·first|exact yaz 0 rfl|exact yaz 1 rfl|exact yaz 2 rfl|exact yaz 3 rfl|exact yaz 4 rfl|exact yaz 5 rfl);(·rfl))|(apply yaf<;>rfl)|(apply yag<;>rfl)|(apply yah<;>rfl)|(apply yai<;>rfl)|(apply yaj<;>rfl)|(apply yak<;>rfl)|(apply yal<;>rfl)|(apply yam<;>rfl)|(apply yan;(·rfl);(·rfl);(·(unfold I64;omega)))|(apply yao;(·rfl);(·rfl);(·(unfold I64;omega)))|(apply yap;rfl)|(apply yaq;rfl)|(apply yar;rfl)|(apply yas<;>rfl)|(apply yat;rfl)|(apply yau<;>rfl)|(apply yav;(·rfl);(·rfl);(·omega);(·omega))|(apply yaw;(·rfl);(·rfl);(·omega);(·omega))|(apply yax<;>rfl))) : p := h
theorem tk_ {p : Prop} (h : p := by (first|(apply qv_lss_t;(·rfl);(·rfl);(·omega)) | (apply qv_lss_f;(·rfl);(·rfl);(·omega)) | (apply qv_leq_t;(·rfl);(·rfl);(·omega)) | (apply qv_leq_f;(·rfl);(·rfl);(·omega)) | (apply qv_gtr_t;(·rfl);(·rfl);(·omega)) | (apply qv_gtr_f;(·rfl);(·rfl);(·omega)) | (apply qv_geq_t;(·rfl);(·rfl);(·omega)) | (apply qv_geq_f;(·rfl);(·rfl);(·omega)) | (apply qv_eql_t;(·rfl);(·rfl);(·omega)) | (apply qv_eql_f;(·rfl);(·rfl);(·omega)) | (apply qv_neq_t;(·rfl);(·rfl);(·omega)) | (apply qv_neq_f;(·rfl);(·rfl);(·omega)))) : p := h
theorem th_ {p : Prop} (h : p := by (first|exact fun _ s => s | exact fun _ s => s.tl | exact fun _ s => s.tl.tl | exact fun _ s => s.tl.tl.tl | exact fun _ s => s.tl.tl.tl.tl)) : p := h
theorem to_ {p : Prop} (h : p := by (first|exact ybf | (refine .inl ?_;exact th_) | (refine .inr ?_;kernel_rfl))) : p := h
theorem ts_ {p : Prop} (h : p := by repeat' (first|exact Sub.nil | refine Sub.cons rfl rfl ?_)) : p := h
structure Bx (p : Prop) : Prop where
  o : p
theorem ta_ {G : Prop} {H : Nat → Prop} (k : ∀ b, H b) (h : Bx (∀ b, H b) → G := by (intro hk;(first|exact yba (ybb rfl) rfl rfl rfl ybf (fun _ => ybf) hk.1 | exact yba ybc rfl rfl rfl ybf (fun _ => ybf) hk.1 | exact yba (ybd rfl rfl rfl (ybe rfl rfl)) rfl rfl rfl ybf (fun _ => ybf) hk.1 | exact yba (ybd rfl rfl rfl rfl) rfl rfl rfl ybf (fun _ => ybf) hk.1))) : G := h ⟨k⟩
theorem tb_ {G A : Prop} {B H : Nat → Prop} (a : A) (b : ∀ b, B b) (k : ∀ b, H b) (h : Bx A → Bx (∀ b, B b) → Bx (∀ b, H b) → G := by (intro ha hb hk;(first|exact yba (ybb rfl) rfl rfl rfl ha.1 hb.1 hk.1 | exact yba ybc rfl rfl rfl ha.1 hb.1 hk.1 | exact yba (ybd rfl rfl rfl (ybe rfl rfl)) rfl rfl rfl ha.1 hb.1 hk.1 | exact yba (ybd rfl rfl rfl rfl) rfl rfl rfl ha.1 hb.1 hk.1))) : G := h ⟨a⟩ ⟨b⟩ ⟨k⟩
theorem tqs_ {G A B H : Prop} (a : A) (b : B) (k : H) (h : Bx A → Bx B → Bx H → G := by (intro ha hb hk;((first|refine ybg 0 rfl rfl rfl ?_ ?_ ?_ (by first|(refine ybh ?_;rfl)|rfl) rfl rfl ha.1 hb.1 ?_|refine ybg 1 rfl rfl rfl ?_ ?_ ?_ (by first|(refine ybh ?_;rfl)|rfl) rfl rfl ha.1 hb.1 ?_|refine ybg 2 rfl rfl rfl ?_ ?_ ?_ (by first|(refine ybh ?_;rfl)|rfl) rfl rfl ha.1 hb.1 ?_|refine ybg 3 rfl rfl rfl ?_ ?_ ?_ (by first|(refine ybh ?_;rfl)|rfl) rfl rfl ha.1 hb.1 ?_|refine ybg 4 rfl rfl rfl ?_ ?_ ?_ (by first|(refine ybh ?_;rfl)|rfl) rfl rfl ha.1 hb.1 ?_|refine ybg 5 rfl rfl rfl ?_ ?_ ?_ (by first|(refine ybh ?_;rfl)|rfl) rfl rfl ha.1 hb.1 ?_);(·rfl);(·exact nble rfl);(·rfl));exact hk.1)) : G := h ⟨a⟩ ⟨b⟩ ⟨k⟩
theorem t1_ {G H : Prop} (k : H) (h : Bx H → G := by (intro hk;(first|(refine ycf ?_;(first|(apply ybk;(·exact tq_);(·rfl);(·rfl))|refine ybl rfl rfl ?_|((first|refine ybg 0 rfl rfl rfl ?_ ?_ ?_ (by first|(refine ybh ?_;rfl)|rfl) rfl rfl ybf ybf ?_|refine ybg 1 rfl rfl rfl ?_ ?_ ?_ (by first|(refine ybh ?_;rfl)|rfl) rfl rfl ybf ybf ?_|refine ybg 2 rfl rfl rfl ?_ ?_ ?_ (by first|(refine ybh ?_;rfl)|rfl) rfl rfl ybf ybf ?_|refine ybg 3 rfl rfl rfl ?_ ?_ ?_ (by first|(refine ybh ?_;rfl)|rfl) rfl rfl ybf ybf ?_|refine ybg 4 rfl rfl rfl ?_ ?_ ?_ (by first|(refine ybh ?_;rfl)|rfl) rfl rfl ybf ybf ?_|refine ybg 5 rfl rfl rfl ?_ ?_ ?_ (by first|(refine ybh ?_;rfl)|rfl) rfl rfl ybf ybf ?_);(·rfl);(·exact nble rfl);(·rfl))|refine ycg ?_))|(refine ych ?_;(first|refine ybo ?_|refine ybp ?_|refine ybq ?_|refine ybr ?_|refine ybs ?_|refine ybt ?_|refine ybu rfl ?_|refine ybv rfl ?_))|(refine yci ?_;(first|refine yby ?_|refine ybz ?_|refine yca ?_|refine ycb ?_|refine ycc ?_|refine ycd ?_|refine yce rfl ?_)));exact hk.1)) : G := h ⟨k⟩
theorem tw_ {G H : Prop} (k : H) (h : Bx H → G := by (intro hk;(first|(refine ycf ?_;(first|(apply ybk;(·exact tq_);(·rfl);(·rfl))|refine ybl rfl rfl ?_|((first|refine ybg 0 rfl rfl rfl ?_ ?_ ?_ (by first|(refine ybh ?_;rfl)|rfl) rfl rfl ybf ybf ?_|refine ybg 1 rfl rfl rfl ?_ ?_ ?_ (by first|(refine ybh ?_;rfl)|rfl) rfl rfl ybf ybf ?_|refine ybg 2 rfl rfl rfl ?_ ?_ ?_ (by first|(refine ybh ?_;rfl)|rfl) rfl rfl ybf ybf ?_|refine ybg 3 rfl rfl rfl ?_ ?_ ?_ (by first|(refine ybh ?_;rfl)|rfl) rfl rfl ybf ybf ?_|refine ybg 4 rfl rfl rfl ?_ ?_ ?_ (by first|(refine ybh ?_;rfl)|rfl) rfl rfl ybf ybf ?_|refine ybg 5 rfl rfl rfl ?_ ?_ ?_ (by first|(refine ybh ?_;rfl)|rfl) rfl rfl ybf ybf ?_);(·rfl);(·exact nble rfl);(·rfl))|refine ycg ?_))|(refine ych ?_;(first|refine ybo ?_|refine ybp ?_|refine ybq ?_|refine ybr ?_|refine ybs ?_|refine ybt ?_|refine ybu rfl ?_|refine ybv rfl ?_))|(refine yci ?_;(first|refine yby ?_|refine ybz ?_|refine yca ?_|refine ycb ?_|refine ycc ?_|refine ycd ?_|refine yce rfl ?_)));(repeat (first|(refine ycf ?_;(first|(apply ybk;(·exact tq_);(·rfl);(·rfl))|refine ybl rfl rfl ?_|((first|refine ybg 0 rfl rfl rfl ?_ ?_ ?_ (by first|(refine ybh ?_;rfl)|rfl) rfl rfl ybf ybf ?_|refine ybg 1 rfl rfl rfl ?_ ?_ ?_ (by first|(refine ybh ?_;rfl)|rfl) rfl rfl ybf ybf ?_|refine ybg 2 rfl rfl rfl ?_ ?_ ?_ (by first|(refine ybh ?_;rfl)|rfl) rfl rfl ybf ybf ?_|refine ybg 3 rfl rfl rfl ?_ ?_ ?_ (by first|(refine ybh ?_;rfl)|rfl) rfl rfl ybf ybf ?_|refine ybg 4 rfl rfl rfl ?_ ?_ ?_ (by first|(refine ybh ?_;rfl)|rfl) rfl rfl ybf ybf ?_|refine ybg 5 rfl rfl rfl ?_ ?_ ?_ (by first|(refine ybh ?_;rfl)|rfl) rfl rfl ybf ybf ?_);(·rfl);(·exact nble rfl);(·rfl))|refine ycg ?_))|(refine ych ?_;(first|refine ybo ?_|refine ybp ?_|refine ybq ?_|refine ybr ?_|refine ybs ?_|refine ybt ?_|refine ybu rfl ?_|refine ybv rfl ?_))|(refine yci ?_;(first|refine yby ?_|refine ybz ?_|refine yca ?_|refine ycb ?_|refine ycc ?_|refine ycd ?_|refine yce rfl ?_))));exact hk.1)) : G := h ⟨k⟩
end Go.Ck
end

section
namespace Go.Ck
open Go
set_option linter.unusedVariables false
section
variable {P : Program} {n : Nat} {K : Bs} {F : List (Nat × Value)} {h : View} {L : List Res} {Q : Exit → Act → World → Prop}
theorem St.put {K : Bs} {h : View} {b : Nat} {o o' : Obj} {L : List Res} {w : World} (s : St K h (Res.blk b o :: L) w) : St K h (Res.blk b o' :: L) (w.putObj b o') := by
  have hlt : b < w.heap.size := (Res.blk b o).lt w (s.hd.own _ (List.mem_cons_self ..)) b (List.mem_singleton.2 rfl)
  exact s.write rfl rfl rfl (Nat.le_refl _) (by simp) (fun k hk => World.putObj_heap_other hk) (World.putObj_heap_same hlt)
def LI (P : Program) (n : Nat) (K : Bs) (ops : Array Oper) (rs : List Oper) (F : List (Nat × Value)) (h : View) (L : List Res) (Q : Exit → Act → World → Prop) : Prop :=
  ∀ a w, Fr n F a → St K h L w → wpListIn Fence.wide 0 P ops Q rs a w
end
end Go.Ck
end

section
namespace Go.Ck
open Go
set_option linter.unusedVariables false
section
variable {P : Program} {n : Nat} {K : Bs} {F : List (Nat × Value)} {h : View} {L : List Res} {Q : Exit → Act → World → Prop}
variable {dst : Option Nat} {ty : Nat} {pos : String} {af : Array Edge} {gd : Option (Nat × Bool)}
theorem run_guard_bool {op : BinOp} {T : Nat} {x y : Operand} {a b : Bool} {w : World} : (eqGuard op T x y (.bool a) (.bool b)).run P w = .ok () w := by
  unfold eqGuard
  by_cases hop : op = .eql ∨ op = .neq
  · rcases hop with rfl | rfl <;> simp
  · have : (!(op matches .eql | .neq)) = true := by cases op<;>first|rfl | exact absurd (Or.inl rfl) hop | exact absurd (Or.inr rfl) hop
    simp [this]
theorem qv_neq_bool {T T' : Nat} {x y : Operand} {a b t : Bool} [tu : TyU P T .bool] (hx : ev F x = some (.bool a)) (hy : ev F y = some (.bool b)) (ht : (!(a == b)) = t) :
    QV P n F h L ⟨dst, .binOp .neq T x y T', ty, pos, af, gd⟩ (.bool t) := .mk fun ac w f s => by
  subst ht
  simp [execOp, f.ev hx, f.ev hy, run_guard_bool, binOp, run_equal_bool w T a b tu.u]
end
end Go.Ck
end

section
namespace Go.Ck
open Go
set_option linter.unusedVariables false
theorem qv_lss_t {P : Program} {n : Nat} {F : List (Nat × Value)} {h : View} {L : List Res} {dst : Option Nat} {ty : Nat} {pos : String} {af : Array Edge} {gd : Option (Nat × Bool)} {T T' : Nat} {x y : Operand} {k : IntKind} {i j : Int} (hx : ev F x = some (.int k i)) (hy : ev F y = some (.int k j)) (hr : i < j) :
    QV P n F h L ⟨dst, .binOp .lss T x y T', ty, pos, af, gd⟩ (.bool true) := by
  have := yah (P := P) (n := n) (h := h) (L := L) (dst := dst) (ty := ty) (pos := pos) (af := af) (gd := gd) (T := T) (T' := T') hx hy
  rwa [decide_eq_true hr] at this
theorem qv_lss_f {P : Program} {n : Nat} {F : List (Nat × Value)} {h : View} {L : List Res} {dst : Option Nat} {ty : Nat} {pos : String} {af : Array Edge} {gd : Option (Nat × Bool)} {T T' : Nat} {x y : Operand} {k : IntKind} {i j : Int} (hx : ev F x = some (.int k i)) (hy : ev F y = some (.int k j)) (hr : ¬ (i < j)) :
    QV P n F h L ⟨dst, .binOp .lss T x y T', ty, pos, af, gd⟩ (.bool false) := by
  have := yah (P := P) (n := n) (h := h) (L := L) (dst := dst) (ty := ty) (pos := pos) (af := af) (gd := gd) (T := T) (T' := T') hx hy
  rwa [decide_eq_false hr] at this
theorem qv_leq_t {P : Program} {n : Nat} {F : List (Nat × Value)} {h : View} {L : List Res} {dst : Option Nat} {ty : Nat} {pos : String} {af : Array Edge} {gd : Option (Nat × Bool)} {T T' : Nat} {x y : Operand} {k : IntKind} {i j : Int} (hx : ev F x = some (.int k i)) (hy : ev F y = some (.int k j)) (hr : i ≤ j) :
    QV P n F h L ⟨dst, .binOp .leq T x y T', ty, pos, af, gd⟩ (.bool true) := by
  have := yai (P := P) (n := n) (h := h) (L := L) (dst := dst) (ty := ty) (pos := pos) (af := af) (gd := gd) (T := T) (T' := T') hx hy
  rwa [decide_eq_true hr] at this
theorem qv_leq_f {P : Program} {n : Nat} {F : List (Nat × Value)} {h : View} {L : List Res} {dst : Option Nat} {ty : Nat} {pos : String} {af : Array Edge} {gd : Option (Nat × Bool)} {T T' : Nat} {x y : Operand} {k : IntKind} {i j : Int} (hx : ev F x = some (.int k i)) (hy : ev F y = some (.int k j)) (hr : ¬ (i ≤ j)) :
    QV P n F h L ⟨dst, .binOp .leq T x y T', ty, pos, af, gd⟩ (.bool false) := by
  have := yai (P := P) (n := n) (h := h) (L := L) (dst := dst) (ty := ty) (pos := pos) (af := af) (gd := gd) (T := T) (T' := T') hx hy
  rwa [decide_eq_false hr] at this
theorem qv_gtr_t {P : Program} {n : Nat} {F : List (Nat × Value)} {h : View} {L : List Res} {dst : Option Nat} {ty : Nat} {pos : String} {af : Array Edge} {gd : Option (Nat × Bool)} {T T' : Nat} {x y : Operand} {k : IntKind} {i j : Int} (hx : ev F x = some (.int k i)) (hy : ev F y = some (.int k j)) (hr : j < i) :
    QV P n F h L ⟨dst, .binOp .gtr T x y T', ty, pos, af, gd⟩ (.bool true) := by
  have := yaj (P := P) (n := n) (h := h) (L := L) (dst := dst) (ty := ty) (pos := pos) (af := af) (gd := gd) (T := T) (T' := T') hx hy
  rwa [decide_eq_true hr] at this
theorem qv_gtr_f {P : Program} {n : Nat} {F : List (Nat × Value)} {h : View} {L : List Res} {dst : Option Nat} {ty : Nat} {pos : String} {af : Array Edge} {gd : Option (Nat × Bool)} {T T' : Nat} {x y : Operand} {k : IntKind} {i j : Int} (hx : ev F x = some (.int k i)) (hy : ev F y = some (.int k j)) (hr : ¬ (j < i)) :
    QV P n F h L ⟨dst, .binOp .gtr T x y T', ty, pos, af, gd⟩ (.bool false) := by
  have := yaj (P := P) (n := n) (h := h) (L := L) (dst := dst) (ty := ty) (pos := pos) (af := af) (gd := gd) (T := T) (T' := T') hx hy
  rwa [decide_eq_false hr] at this
theorem qv_geq_t {P : Program} {n : Nat} {F : List (Nat × Value)} {h : View} {L : List Res} {dst : Option Nat} {ty : Nat} {pos : String} {af : Array Edge} {gd : Option (Nat × Bool)} {T T' : Nat} {x y : Operand} {k : IntKind} {i j : Int} (hx : ev F x = some (.int k i)) (hy : ev F y = some (.int k j)) (hr : j ≤ i) :
    QV P n F h L ⟨dst, .binOp .geq T x y T', ty, pos, af, gd⟩ (.bool true) := by
  have := yak (P := P) (n := n) (h := h) (L := L) (dst := dst) (ty := ty) (pos := pos) (af := af) (gd := gd) (T := T) (T' := T') hx hy
  rwa [decide_eq_true hr] at this
theorem qv_geq_f {P : Program} {n : Nat} {F : List (Nat × Value)} {h : View} {L : List Res} {dst : Option Nat} {ty : Nat} {pos : String} {af : Array Edge} {gd : Option (Nat × Bool)} {T T' : Nat} {x y : Operand} {k : IntKind} {i j : Int} (hx : ev F x = some (.int k i)) (hy : ev F y = some (.int k j)) (hr : ¬ (j ≤ i)) :
    QV P n F h L ⟨dst, .binOp .geq T x y T', ty, pos, af, gd⟩ (.bool false) := by
  have := yak (P := P) (n := n) (h := h) (L := L) (dst := dst) (ty := ty) (pos := pos) (af := af) (gd := gd) (T := T) (T' := T') hx hy
  rwa [decide_eq_false hr] at this
theorem qv_eql_t {P : Program} {n : Nat} {F : List (Nat × Value)} {h : View} {L : List Res} {dst : Option Nat} {ty : Nat} {pos : String} {af : Array Edge} {gd : Option (Nat × Bool)} {T T' : Nat} {x y : Operand} {k : IntKind} {i j : Int} (hx : ev F x = some (.int k i)) (hy : ev F y = some (.int k j)) (hr : i = j) :
    QV P n F h L ⟨dst, .binOp .eql T x y T', ty, pos, af, gd⟩ (.bool true) := by
  have := yal (P := P) (n := n) (h := h) (L := L) (dst := dst) (ty := ty) (pos := pos) (af := af) (gd := gd) (T := T) (T' := T') hx hy
  rwa [decide_eq_true hr] at this
theorem qv_eql_f {P : Program} {n : Nat} {F : List (Nat × Value)} {h : View} {L : List Res} {dst : Option Nat} {ty : Nat} {pos : String} {af : Array Edge} {gd : Option (Nat × Bool)} {T T' : Nat} {x y : Operand} {k : IntKind} {i j : Int} (hx : ev F x = some (.int k i)) (hy : ev F y = some (.int k j)) (hr : ¬ (i = j)) :
    QV P n F h L ⟨dst, .binOp .eql T x y T', ty, pos, af, gd⟩ (.bool false) := by
  have := yal (P := P) (n := n) (h := h) (L := L) (dst := dst) (ty := ty) (pos := pos) (af := af) (gd := gd) (T := T) (T' := T') hx hy
  rwa [decide_eq_false hr] at this
theorem qv_neq_t {P : Program} {n : Nat} {F : List (Nat × Value)} {h : View} {L : List Res} {dst : Option Nat} {ty : Nat} {pos : String} {af : Array Edge} {gd : Option (Nat × Bool)} {T T' : Nat} {x y : Operand} {k : IntKind} {i j : Int} (hx : ev F x = some (.int k i)) (hy : ev F y = some (.int k j)) (hr : i ≠ j) :
    QV P n F h L ⟨dst, .binOp .neq T x y T', ty, pos, af, gd⟩ (.bool true) := by
  have := yam (P := P) (n := n) (h := h) (L := L) (dst := dst) (ty := ty) (pos := pos) (af := af) (gd := gd) (T := T) (T' := T') hx hy
  rwa [decide_eq_true hr] at this
theorem qv_neq_f {P : Program} {n : Nat} {F : List (Nat × Value)} {h : View} {L : List Res} {dst : Option Nat} {ty : Nat} {pos : String} {af : Array Edge} {gd : Option (Nat × Bool)} {T T' : Nat} {x y : Operand} {k : IntKind} {i j : Int} (hx : ev F x = some (.int k i)) (hy : ev F y = some (.int k j)) (hr : ¬ (i ≠ j)) :
    QV P n F h L ⟨dst, .binOp .neq T x y T', ty, pos, af, gd⟩ (.bool false) := by
  have := yam (P := P) (n := n) (h := h) (L := L) (dst := dst) (ty := ty) (pos := pos) (af := af) (gd := gd) (T := T) (T' := T') hx hy
  rwa [decide_eq_false hr] at this
end Go.Ck
end
