/-
  Part 2 of a proof: CkTy CkTc CkTac CkRange CkEq.
  Conditions: each theorem states its own.
-/
import Derived.Test.YtgeepceieckooaaDoorRows
import Derived.RangeFuncGives
import Derived.RangeFuncLeaves
import Derived.RangeFuncSeq
import Derived.TacticsIn
import Derived.Test.YtgeepceieckooaaDoorVrDPM1
section
namespace Go.Proofs.YtgeepceieckooaaDoor
open Go Go.Ck
instance cku3 : TyU Tryd.prog 3 (Go.TypeDesc.int Go.IntKind.i64) := ⟨Tryd.underlying3⟩
instance cku4 : TyU Tryd.prog 4 (Go.TypeDesc.bool) := ⟨Tryd.underlying4⟩
instance cku5 : TyU Tryd.prog 5 (Go.TypeDesc.int Go.IntKind.u8) := ⟨Tryd.underlying5⟩
instance cku9 : TyU Tryd.prog 9 (Go.TypeDesc.string) := ⟨Tryd.underlying9⟩
instance cku22 : TyU Tryd.prog 22 (Go.TypeDesc.slice 5) := ⟨Tryd.underlying22⟩
instance cku25 : TyU Tryd.prog 25 (Go.TypeDesc.array 32 5) := ⟨Tryd.underlying25⟩
instance ckf28_0 : TyF Tryd.prog 28 0 0 3 1 := ⟨_, _, Tryd.underlying28, rfl, rfl, rfl, Tryd.sizeOf3⟩
instance ckf28_1 : TyF Tryd.prog 28 1 1 3 1 := ⟨_, _, Tryd.underlying28, rfl, rfl, rfl, Tryd.sizeOf3⟩
instance cku33 : TyU Tryd.prog 33 (Go.TypeDesc.int Go.IntKind.i64) := ⟨Tryd.underlying33⟩
instance cku37 : TyU Tryd.prog 37 (Go.TypeDesc.int Go.IntKind.u64) := ⟨Tryd.underlying37⟩
instance cku55 : TyU Tryd.prog 55 (Go.TypeDesc.pointer 73) := ⟨Tryd.underlying55⟩
instance ckf73_0 : TyF Tryd.prog 73 0 0 22 1 := ⟨_, _, Tryd.underlying73, rfl, rfl, rfl, Tryd.sizeOf22⟩
instance ckf73_1 : TyF Tryd.prog 73 1 1 4 1 := ⟨_, _, Tryd.underlying73, rfl, rfl, rfl, Tryd.sizeOf4⟩
instance cku84 : TyU Tryd.prog 84 (Go.TypeDesc.array 12 5) := ⟨Tryd.underlying84⟩
instance cku95 : TyU Tryd.prog 95 (Go.TypeDesc.int Go.IntKind.u32) := ⟨Tryd.underlying95⟩
instance cku103 : TyU Tryd.prog 103 (Go.TypeDesc.pointer 115) := ⟨Tryd.underlying103⟩
instance cku106 : TyU Tryd.prog 106 (Go.TypeDesc.slice 22) := ⟨Tryd.underlying106⟩
instance cku110 : TyU Tryd.prog 110 (Go.TypeDesc.array 64 5) := ⟨Tryd.underlying110⟩
instance ckf115_0 : TyF Tryd.prog 115 0 0 22 1 := ⟨_, _, Tryd.underlying115, rfl, rfl, rfl, Tryd.sizeOf22⟩
instance ckf115_1 : TyF Tryd.prog 115 1 1 33 1 := ⟨_, _, Tryd.underlying115, rfl, rfl, rfl, Tryd.sizeOf33⟩
instance cku118 : TyU Tryd.prog 118 (Go.TypeDesc.int Go.IntKind.u64) := ⟨Tryd.underlying118⟩
instance cku119 : TyU Tryd.prog 119 (Go.TypeDesc.array 8 95) := ⟨Tryd.underlying119⟩
instance cku121 : TyU Tryd.prog 121 (Go.TypeDesc.array 16 95) := ⟨Tryd.underlying121⟩
instance cku135 : TyU Tryd.prog 135 (Go.TypeDesc.array 64 95) := ⟨Tryd.underlying135⟩
instance cka3 : TyA Tryd.prog 3 false := ⟨Tryd.isAgg3⟩
instance cka4 : TyA Tryd.prog 4 false := ⟨Tryd.isAgg4⟩
instance cka5 : TyA Tryd.prog 5 false := ⟨Tryd.isAgg5⟩
instance cka9 : TyA Tryd.prog 9 false := ⟨Tryd.isAgg9⟩
instance cka22 : TyA Tryd.prog 22 false := ⟨Tryd.isAgg22⟩
instance cka25 : TyA Tryd.prog 25 true := ⟨Tryd.isAgg25⟩
instance cka28 : TyA Tryd.prog 28 true := ⟨Tryd.isAgg28⟩
instance cka33 : TyA Tryd.prog 33 false := ⟨Tryd.isAgg33⟩
instance cka37 : TyA Tryd.prog 37 false := ⟨Tryd.isAgg37⟩
instance cka55 : TyA Tryd.prog 55 false := ⟨Tryd.isAgg55⟩
instance cka73 : TyA Tryd.prog 73 true := ⟨Tryd.isAgg73⟩
instance cka84 : TyA Tryd.prog 84 true := ⟨Tryd.isAgg84⟩
instance cka95 : TyA Tryd.prog 95 false := ⟨Tryd.isAgg95⟩
instance cka103 : TyA Tryd.prog 103 false := ⟨Tryd.isAgg103⟩
instance cka106 : TyA Tryd.prog 106 false := ⟨Tryd.isAgg106⟩
instance cka110 : TyA Tryd.prog 110 true := ⟨Tryd.isAgg110⟩
instance cka115 : TyA Tryd.prog 115 true := ⟨Tryd.isAgg115⟩
instance cka118 : TyA Tryd.prog 118 false := ⟨Tryd.isAgg118⟩
instance cka119 : TyA Tryd.prog 119 true := ⟨Tryd.isAgg119⟩
instance cka121 : TyA Tryd.prog 121 true := ⟨Tryd.isAgg121⟩
instance cka135 : TyA Tryd.prog 135 true := ⟨Tryd.isAgg135⟩
instance cks3 : TyS Tryd.prog 3 1 := ⟨Tryd.sizeOf3⟩
instance cks4 : TyS Tryd.prog 4 1 := ⟨Tryd.sizeOf4⟩
instance cks5 : TyS Tryd.prog 5 1 := ⟨Tryd.sizeOf5⟩
instance cks9 : TyS Tryd.prog 9 1 := ⟨Tryd.sizeOf9⟩
instance cks22 : TyS Tryd.prog 22 1 := ⟨Tryd.sizeOf22⟩
instance cks25 : TyS Tryd.prog 25 32 := ⟨Tryd.sizeOf25⟩
instance cks28 : TyS Tryd.prog 28 2 := ⟨Tryd.sizeOf28⟩
instance cks33 : TyS Tryd.prog 33 1 := ⟨Tryd.sizeOf33⟩
instance cks37 : TyS Tryd.prog 37 1 := ⟨Tryd.sizeOf37⟩
instance cks55 : TyS Tryd.prog 55 1 := ⟨Tryd.sizeOf55⟩
instance cks73 : TyS Tryd.prog 73 2 := ⟨Tryd.sizeOf73⟩
instance cks84 : TyS Tryd.prog 84 12 := ⟨Tryd.sizeOf84⟩
instance cks95 : TyS Tryd.prog 95 1 := ⟨Tryd.sizeOf95⟩
instance cks103 : TyS Tryd.prog 103 1 := ⟨Tryd.sizeOf103⟩
instance cks106 : TyS Tryd.prog 106 1 := ⟨Tryd.sizeOf106⟩
instance cks110 : TyS Tryd.prog 110 64 := ⟨Tryd.sizeOf110⟩
instance cks115 : TyS Tryd.prog 115 2 := ⟨Tryd.sizeOf115⟩
instance cks118 : TyS Tryd.prog 118 1 := ⟨Tryd.sizeOf118⟩
instance cks119 : TyS Tryd.prog 119 8 := ⟨Tryd.sizeOf119⟩
instance cks121 : TyS Tryd.prog 121 16 := ⟨Tryd.sizeOf121⟩
instance cks135 : TyS Tryd.prog 135 64 := ⟨Tryd.sizeOf135⟩
instance ckz3 : TyZ Tryd.prog 3 (Go.Value.int Go.IntKind.i64 0) := ⟨Tryd.zeroValue3⟩
instance ckz4 : TyZ Tryd.prog 4 (Go.Value.bool false) := ⟨Tryd.zeroValue4⟩
instance ckz5 : TyZ Tryd.prog 5 (Go.Value.int Go.IntKind.u8 0) := ⟨Tryd.zeroValue5⟩
instance ckz9 : TyZ Tryd.prog 9 (Go.Value.string { data := #[] }) := ⟨Tryd.zeroValue9⟩
instance ckz22 : TyZ Tryd.prog 22 (Go.Value.slice none 0 0) := ⟨Tryd.zeroValue22⟩
instance ckz25 : TyZ Tryd.prog 25 (Go.Value.agg #[Go.Value.int Go.IntKind.u8 0, Go.Value.int Go.IntKind.u8 0, Go.Value.int Go.IntKind.u8 0, Go.Value.int Go.IntKind.u8 0, Go.Value.int Go.IntKind.u8 0, Go.Value.int Go.IntKind.u8 0, Go.Value.int Go.IntKind.u8 0, Go.Value.int Go.IntKind.u8 0, Go.Value.int Go.IntKind.u8 0, Go.Value.int Go.IntKind.u8 0, Go.Value.int Go.IntKind.u8 0, Go.Value.int Go.IntKind.u8 0, Go.Value.int Go.IntKind.u8 0, Go.Value.int Go.IntKind.u8 0, Go.Value.int Go.IntKind.u8 0, Go.Value.int Go.IntKind.u8 0, Go.Value.int Go.IntKind.u8 0, Go.Value.int Go.IntKind.u8 0, Go.Value.int Go.IntKind.u8 0, Go.Value.int Go.IntKind.u8 0, Go.Value.int Go.IntKind.u8 0, Go.Value.int Go.IntKind.u8 0, Go.Value.int Go.IntKind.u8 0, Go.Value.int Go.IntKind.u8 0, Go.Value.int Go.IntKind.u8 0, Go.Value.int Go.IntKind.u8 0, Go.Value.int Go.IntKind.u8 0, Go.Value.int Go.IntKind.u8 0, Go.Value.int Go.IntKind.u8 0, Go.Value.int Go.IntKind.u8 0, Go.Value.int Go.IntKind.u8 0, Go.Value.int Go.IntKind.u8 0]) := ⟨Tryd.zeroValue25⟩
instance ckz28 : TyZ Tryd.prog 28 (Go.Value.agg #[Go.Value.int Go.IntKind.i64 0, Go.Value.int Go.IntKind.i64 0]) := ⟨Tryd.zeroValue28⟩
instance ckz33 : TyZ Tryd.prog 33 (Go.Value.int Go.IntKind.i64 0) := ⟨Tryd.zeroValue33⟩
instance ckz37 : TyZ Tryd.prog 37 (Go.Value.int Go.IntKind.u64 0) := ⟨Tryd.zeroValue37⟩
instance ckz55 : TyZ Tryd.prog 55 (Go.Value.pointer none) := ⟨Tryd.zeroValue55⟩
instance ckz73 : TyZ Tryd.prog 73 (Go.Value.agg #[Go.Value.slice none 0 0, Go.Value.bool false]) := ⟨Tryd.zeroValue73⟩
instance ckz84 : TyZ Tryd.prog 84 (Go.Value.agg #[Go.Value.int Go.IntKind.u8 0, Go.Value.int Go.IntKind.u8 0, Go.Value.int Go.IntKind.u8 0, Go.Value.int Go.IntKind.u8 0, Go.Value.int Go.IntKind.u8 0, Go.Value.int Go.IntKind.u8 0, Go.Value.int Go.IntKind.u8 0, Go.Value.int Go.IntKind.u8 0, Go.Value.int Go.IntKind.u8 0, Go.Value.int Go.IntKind.u8 0, Go.Value.int Go.IntKind.u8 0, Go.Value.int Go.IntKind.u8 0]) := ⟨Tryd.zeroValue84⟩
instance ckz95 : TyZ Tryd.prog 95 (Go.Value.int Go.IntKind.u32 0) := ⟨Tryd.zeroValue95⟩
instance ckz103 : TyZ Tryd.prog 103 (Go.Value.pointer none) := ⟨Tryd.zeroValue103⟩
instance ckz106 : TyZ Tryd.prog 106 (Go.Value.slice none 0 0) := ⟨Tryd.zeroValue106⟩
instance ckz110 : TyZ Tryd.prog 110 (Go.Value.agg #[Go.Value.int Go.IntKind.u8 0, Go.Value.int Go.IntKind.u8 0, Go.Value.int Go.IntKind.u8 0, Go.Value.int Go.IntKind.u8 0, Go.Value.int Go.IntKind.u8 0, Go.Value.int Go.IntKind.u8 0, Go.Value.int Go.IntKind.u8 0, Go.Value.int Go.IntKind.u8 0, Go.Value.int Go.IntKind.u8 0, Go.Value.int Go.IntKind.u8 0, Go.Value.int Go.IntKind.u8 0, Go.Value.int Go.IntKind.u8 0, Go.Value.int Go.IntKind.u8 0, Go.Value.int Go.IntKind.u8 0, Go.Value.int Go.IntKind.u8 0, Go.Value.int Go.IntKind.u8 0, Go.Value.int Go.IntKind.u8 0, Go.Value.int Go.IntKind.u8 0, Go.Value.int Go.IntKind.u8 0, Go.Value.int Go.IntKind.u8 0, Go.Value.int Go.IntKind.u8 0, Go.Value.int Go.IntKind.u8 0, Go.Value.int Go.IntKind.u8 0, Go.Value.int Go.IntKind.u8 0, Go.Value.int Go.IntKind.u8 0, Go.Value.int Go.IntKind.u8 0, Go.Value.int Go.IntKind.u8 0, Go.Value.int Go.IntKind.u8 0, Go.Value.int Go.IntKind.u8 0, Go.Value.int Go.IntKind.u8 0, Go.Value.int Go.IntKind.u8 0, Go.Value.int Go.IntKind.u8 0, Go.Value.int Go.IntKind.u8 0, Go.Value.int Go.IntKind.u8 0, Go.Value.int Go.IntKind.u8 0, Go.Value.int Go.IntKind.u8 0, Go.Value.int Go.IntKind.u8 0, Go.Value.int Go.IntKind.u8 0, Go.Value.int Go.IntKind.u8 0, Go.Value.int Go.IntKind.u8 0, Go.Value.int Go.IntKind.u8 0, Go.Value.int Go.IntKind.u8 0, Go.Value.int Go.IntKind.u8 0, Go.Value.int Go.IntKind.u8 0, Go.Value.int Go.IntKind.u8 0, Go.Value.int Go.IntKind.u8 0, Go.Value.int Go.IntKind.u8 0, Go.Value.int Go.IntKind.u8 0, Go.Value.int Go.IntKind.u8 0, Go.Value.int Go.IntKind.u8 0, Go.Value.int Go.IntKind.u8 0, Go.Value.int Go.IntKind.u8 0, Go.Value.int Go.IntKind.u8 0, Go.Value.int Go.IntKind.u8 0, Go.Value.int Go.IntKind.u8 0, Go.Value.int Go.IntKind.u8 0, Go.Value.int Go.IntKind.u8 0, Go.Value.int Go.IntKind.u8 0, Go.Value.int Go.IntKind.u8 0, Go.Value.int Go.IntKind.u8 0, Go.Value.int Go.IntKind.u8 0, Go.Value.int Go.IntKind.u8 0, Go.Value.int Go.IntKind.u8 0, Go.Value.int Go.IntKind.u8 0]) := ⟨Tryd.zeroValue110⟩
instance ckz115 : TyZ Tryd.prog 115 (Go.Value.agg #[Go.Value.slice none 0 0, Go.Value.int Go.IntKind.i64 0]) := ⟨Tryd.zeroValue115⟩
instance ckz118 : TyZ Tryd.prog 118 (Go.Value.int Go.IntKind.u64 0) := ⟨Tryd.zeroValue118⟩
instance ckz119 : TyZ Tryd.prog 119 (Go.Value.agg #[Go.Value.int Go.IntKind.u32 0, Go.Value.int Go.IntKind.u32 0, Go.Value.int Go.IntKind.u32 0, Go.Value.int Go.IntKind.u32 0, Go.Value.int Go.IntKind.u32 0, Go.Value.int Go.IntKind.u32 0, Go.Value.int Go.IntKind.u32 0, Go.Value.int Go.IntKind.u32 0]) := ⟨Tryd.zeroValue119⟩
instance ckz121 : TyZ Tryd.prog 121 (Go.Value.agg #[Go.Value.int Go.IntKind.u32 0, Go.Value.int Go.IntKind.u32 0, Go.Value.int Go.IntKind.u32 0, Go.Value.int Go.IntKind.u32 0, Go.Value.int Go.IntKind.u32 0, Go.Value.int Go.IntKind.u32 0, Go.Value.int Go.IntKind.u32 0, Go.Value.int Go.IntKind.u32 0, Go.Value.int Go.IntKind.u32 0, Go.Value.int Go.IntKind.u32 0, Go.Value.int Go.IntKind.u32 0, Go.Value.int Go.IntKind.u32 0, Go.Value.int Go.IntKind.u32 0, Go.Value.int Go.IntKind.u32 0, Go.Value.int Go.IntKind.u32 0, Go.Value.int Go.IntKind.u32 0]) := ⟨Tryd.zeroValue121⟩
instance ckz135 : TyZ Tryd.prog 135 (Go.Value.agg #[Go.Value.int Go.IntKind.u32 0, Go.Value.int Go.IntKind.u32 0, Go.Value.int Go.IntKind.u32 0, Go.Value.int Go.IntKind.u32 0, Go.Value.int Go.IntKind.u32 0, Go.Value.int Go.IntKind.u32 0, Go.Value.int Go.IntKind.u32 0, Go.Value.int Go.IntKind.u32 0, Go.Value.int Go.IntKind.u32 0, Go.Value.int Go.IntKind.u32 0, Go.Value.int Go.IntKind.u32 0, Go.Value.int Go.IntKind.u32 0, Go.Value.int Go.IntKind.u32 0, Go.Value.int Go.IntKind.u32 0, Go.Value.int Go.IntKind.u32 0, Go.Value.int Go.IntKind.u32 0, Go.Value.int Go.IntKind.u32 0, Go.Value.int Go.IntKind.u32 0, Go.Value.int Go.IntKind.u32 0, Go.Value.int Go.IntKind.u32 0, Go.Value.int Go.IntKind.u32 0, Go.Value.int Go.IntKind.u32 0, Go.Value.int Go.IntKind.u32 0, Go.Value.int Go.IntKind.u32 0, Go.Value.int Go.IntKind.u32 0, Go.Value.int Go.IntKind.u32 0, Go.Value.int Go.IntKind.u32 0, Go.Value.int Go.IntKind.u32 0, Go.Value.int Go.IntKind.u32 0, Go.Value.int Go.IntKind.u32 0, Go.Value.int Go.IntKind.u32 0, Go.Value.int Go.IntKind.u32 0, Go.Value.int Go.IntKind.u32 0, Go.Value.int Go.IntKind.u32 0, Go.Value.int Go.IntKind.u32 0, Go.Value.int Go.IntKind.u32 0, Go.Value.int Go.IntKind.u32 0, Go.Value.int Go.IntKind.u32 0, Go.Value.int Go.IntKind.u32 0, Go.Value.int Go.IntKind.u32 0, Go.Value.int Go.IntKind.u32 0, Go.Value.int Go.IntKind.u32 0, Go.Value.int Go.IntKind.u32 0, Go.Value.int Go.IntKind.u32 0, Go.Value.int Go.IntKind.u32 0, Go.Value.int Go.IntKind.u32 0, Go.Value.int Go.IntKind.u32 0, Go.Value.int Go.IntKind.u32 0, Go.Value.int Go.IntKind.u32 0, Go.Value.int Go.IntKind.u32 0, Go.Value.int Go.IntKind.u32 0, Go.Value.int Go.IntKind.u32 0, Go.Value.int Go.IntKind.u32 0, Go.Value.int Go.IntKind.u32 0, Go.Value.int Go.IntKind.u32 0, Go.Value.int Go.IntKind.u32 0, Go.Value.int Go.IntKind.u32 0, Go.Value.int Go.IntKind.u32 0, Go.Value.int Go.IntKind.u32 0, Go.Value.int Go.IntKind.u32 0, Go.Value.int Go.IntKind.u32 0, Go.Value.int Go.IntKind.u32 0, Go.Value.int Go.IntKind.u32 0, Go.Value.int Go.IntKind.u32 0]) := ⟨Tryd.zeroValue135⟩
instance ckb3 : TyB Tryd.prog 3 (Go.Value.int Go.IntKind.i64 0) 1 8 := ⟨by kernel_rfl⟩
instance ckb4 : TyB Tryd.prog 4 (Go.Value.bool false) 1 1 := ⟨by kernel_rfl⟩
instance ckb5 : TyB Tryd.prog 5 (Go.Value.int Go.IntKind.u8 0) 1 1 := ⟨by kernel_rfl⟩
instance ckb9 : TyB Tryd.prog 9 (Go.Value.string { data := #[] }) 1 16 := ⟨by kernel_rfl⟩
instance ckb22 : TyB Tryd.prog 22 (Go.Value.slice none 0 0) 1 24 := ⟨by kernel_rfl⟩
instance ckb25 : TyB Tryd.prog 25 (Go.Value.agg #[Go.Value.int Go.IntKind.u8 0, Go.Value.int Go.IntKind.u8 0, Go.Value.int Go.IntKind.u8 0, Go.Value.int Go.IntKind.u8 0, Go.Value.int Go.IntKind.u8 0, Go.Value.int Go.IntKind.u8 0, Go.Value.int Go.IntKind.u8 0, Go.Value.int Go.IntKind.u8 0, Go.Value.int Go.IntKind.u8 0, Go.Value.int Go.IntKind.u8 0, Go.Value.int Go.IntKind.u8 0, Go.Value.int Go.IntKind.u8 0, Go.Value.int Go.IntKind.u8 0, Go.Value.int Go.IntKind.u8 0, Go.Value.int Go.IntKind.u8 0, Go.Value.int Go.IntKind.u8 0, Go.Value.int Go.IntKind.u8 0, Go.Value.int Go.IntKind.u8 0, Go.Value.int Go.IntKind.u8 0, Go.Value.int Go.IntKind.u8 0, Go.Value.int Go.IntKind.u8 0, Go.Value.int Go.IntKind.u8 0, Go.Value.int Go.IntKind.u8 0, Go.Value.int Go.IntKind.u8 0, Go.Value.int Go.IntKind.u8 0, Go.Value.int Go.IntKind.u8 0, Go.Value.int Go.IntKind.u8 0, Go.Value.int Go.IntKind.u8 0, Go.Value.int Go.IntKind.u8 0, Go.Value.int Go.IntKind.u8 0, Go.Value.int Go.IntKind.u8 0, Go.Value.int Go.IntKind.u8 0]) 32 32 := ⟨by kernel_rfl⟩
instance ckb28 : TyB Tryd.prog 28 (Go.Value.agg #[Go.Value.int Go.IntKind.i64 0, Go.Value.int Go.IntKind.i64 0]) 2 16 := ⟨by kernel_rfl⟩
instance ckb33 : TyB Tryd.prog 33 (Go.Value.int Go.IntKind.i64 0) 1 8 := ⟨by kernel_rfl⟩
instance ckb37 : TyB Tryd.prog 37 (Go.Value.int Go.IntKind.u64 0) 1 8 := ⟨by kernel_rfl⟩
instance ckb55 : TyB Tryd.prog 55 (Go.Value.pointer none) 1 8 := ⟨by kernel_rfl⟩
instance ckb73 : TyB Tryd.prog 73 (Go.Value.agg #[Go.Value.slice none 0 0, Go.Value.bool false]) 2 32 := ⟨by kernel_rfl⟩
instance ckb84 : TyB Tryd.prog 84 (Go.Value.agg #[Go.Value.int Go.IntKind.u8 0, Go.Value.int Go.IntKind.u8 0, Go.Value.int Go.IntKind.u8 0, Go.Value.int Go.IntKind.u8 0, Go.Value.int Go.IntKind.u8 0, Go.Value.int Go.IntKind.u8 0, Go.Value.int Go.IntKind.u8 0, Go.Value.int Go.IntKind.u8 0, Go.Value.int Go.IntKind.u8 0, Go.Value.int Go.IntKind.u8 0, Go.Value.int Go.IntKind.u8 0, Go.Value.int Go.IntKind.u8 0]) 12 12 := ⟨by kernel_rfl⟩
instance ckb95 : TyB Tryd.prog 95 (Go.Value.int Go.IntKind.u32 0) 1 4 := ⟨by kernel_rfl⟩
instance ckb103 : TyB Tryd.prog 103 (Go.Value.pointer none) 1 8 := ⟨by kernel_rfl⟩
instance ckb106 : TyB Tryd.prog 106 (Go.Value.slice none 0 0) 1 24 := ⟨by kernel_rfl⟩
instance ckb110 : TyB Tryd.prog 110 (Go.Value.agg #[Go.Value.int Go.IntKind.u8 0, Go.Value.int Go.IntKind.u8 0, Go.Value.int Go.IntKind.u8 0, Go.Value.int Go.IntKind.u8 0, Go.Value.int Go.IntKind.u8 0, Go.Value.int Go.IntKind.u8 0, Go.Value.int Go.IntKind.u8 0, Go.Value.int Go.IntKind.u8 0, Go.Value.int Go.IntKind.u8 0, Go.Value.int Go.IntKind.u8 0, Go.Value.int Go.IntKind.u8 0, Go.Value.int Go.IntKind.u8 0, Go.Value.int Go.IntKind.u8 0, Go.Value.int Go.IntKind.u8 0, Go.Value.int Go.IntKind.u8 0, Go.Value.int Go.IntKind.u8 0, Go.Value.int Go.IntKind.u8 0, Go.Value.int Go.IntKind.u8 0, Go.Value.int Go.IntKind.u8 0, Go.Value.int Go.IntKind.u8 0, Go.Value.int Go.IntKind.u8 0, Go.Value.int Go.IntKind.u8 0, Go.Value.int Go.IntKind.u8 0, Go.Value.int Go.IntKind.u8 0, Go.Value.int Go.IntKind.u8 0, Go.Value.int Go.IntKind.u8 0, Go.Value.int Go.IntKind.u8 0, Go.Value.int Go.IntKind.u8 0, Go.Value.int Go.IntKind.u8 0, Go.Value.int Go.IntKind.u8 0, Go.Value.int Go.IntKind.u8 0, Go.Value.int Go.IntKind.u8 0, Go.Value.int Go.IntKind.u8 0, Go.Value.int Go.IntKind.u8 0, Go.Value.int Go.IntKind.u8 0, Go.Value.int Go.IntKind.u8 0, Go.Value.int Go.IntKind.u8 0, Go.Value.int Go.IntKind.u8 0, Go.Value.int Go.IntKind.u8 0, Go.Value.int Go.IntKind.u8 0, Go.Value.int Go.IntKind.u8 0, Go.Value.int Go.IntKind.u8 0, Go.Value.int Go.IntKind.u8 0, Go.Value.int Go.IntKind.u8 0, Go.Value.int Go.IntKind.u8 0, Go.Value.int Go.IntKind.u8 0, Go.Value.int Go.IntKind.u8 0, Go.Value.int Go.IntKind.u8 0, Go.Value.int Go.IntKind.u8 0, Go.Value.int Go.IntKind.u8 0, Go.Value.int Go.IntKind.u8 0, Go.Value.int Go.IntKind.u8 0, Go.Value.int Go.IntKind.u8 0, Go.Value.int Go.IntKind.u8 0, Go.Value.int Go.IntKind.u8 0, Go.Value.int Go.IntKind.u8 0, Go.Value.int Go.IntKind.u8 0, Go.Value.int Go.IntKind.u8 0, Go.Value.int Go.IntKind.u8 0, Go.Value.int Go.IntKind.u8 0, Go.Value.int Go.IntKind.u8 0, Go.Value.int Go.IntKind.u8 0, Go.Value.int Go.IntKind.u8 0, Go.Value.int Go.IntKind.u8 0]) 64 64 := ⟨by kernel_rfl⟩
instance ckb115 : TyB Tryd.prog 115 (Go.Value.agg #[Go.Value.slice none 0 0, Go.Value.int Go.IntKind.i64 0]) 2 32 := ⟨by kernel_rfl⟩
instance ckb118 : TyB Tryd.prog 118 (Go.Value.int Go.IntKind.u64 0) 1 8 := ⟨by kernel_rfl⟩
instance ckb119 : TyB Tryd.prog 119 (Go.Value.agg #[Go.Value.int Go.IntKind.u32 0, Go.Value.int Go.IntKind.u32 0, Go.Value.int Go.IntKind.u32 0, Go.Value.int Go.IntKind.u32 0, Go.Value.int Go.IntKind.u32 0, Go.Value.int Go.IntKind.u32 0, Go.Value.int Go.IntKind.u32 0, Go.Value.int Go.IntKind.u32 0]) 8 32 := ⟨by kernel_rfl⟩
instance ckb121 : TyB Tryd.prog 121 (Go.Value.agg #[Go.Value.int Go.IntKind.u32 0, Go.Value.int Go.IntKind.u32 0, Go.Value.int Go.IntKind.u32 0, Go.Value.int Go.IntKind.u32 0, Go.Value.int Go.IntKind.u32 0, Go.Value.int Go.IntKind.u32 0, Go.Value.int Go.IntKind.u32 0, Go.Value.int Go.IntKind.u32 0, Go.Value.int Go.IntKind.u32 0, Go.Value.int Go.IntKind.u32 0, Go.Value.int Go.IntKind.u32 0, Go.Value.int Go.IntKind.u32 0, Go.Value.int Go.IntKind.u32 0, Go.Value.int Go.IntKind.u32 0, Go.Value.int Go.IntKind.u32 0, Go.Value.int Go.IntKind.u32 0]) 16 64 := ⟨by kernel_rfl⟩
instance ckb135 : TyB Tryd.prog 135 (Go.Value.agg #[Go.Value.int Go.IntKind.u32 0, Go.Value.int Go.IntKind.u32 0, Go.Value.int Go.IntKind.u32 0, Go.Value.int Go.IntKind.u32 0, Go.Value.int Go.IntKind.u32 0, Go.Value.int Go.IntKind.u32 0, Go.Value.int Go.IntKind.u32 0, Go.Value.int Go.IntKind.u32 0, Go.Value.int Go.IntKind.u32 0, Go.Value.int Go.IntKind.u32 0, Go.Value.int Go.IntKind.u32 0, Go.Value.int Go.IntKind.u32 0, Go.Value.int Go.IntKind.u32 0, Go.Value.int Go.IntKind.u32 0, Go.Value.int Go.IntKind.u32 0, Go.Value.int Go.IntKind.u32 0, Go.Value.int Go.IntKind.u32 0, Go.Value.int Go.IntKind.u32 0, Go.Value.int Go.IntKind.u32 0, Go.Value.int Go.IntKind.u32 0, Go.Value.int Go.IntKind.u32 0, Go.Value.int Go.IntKind.u32 0, Go.Value.int Go.IntKind.u32 0, Go.Value.int Go.IntKind.u32 0, Go.Value.int Go.IntKind.u32 0, Go.Value.int Go.IntKind.u32 0, Go.Value.int Go.IntKind.u32 0, Go.Value.int Go.IntKind.u32 0, Go.Value.int Go.IntKind.u32 0, Go.Value.int Go.IntKind.u32 0, Go.Value.int Go.IntKind.u32 0, Go.Value.int Go.IntKind.u32 0, Go.Value.int Go.IntKind.u32 0, Go.Value.int Go.IntKind.u32 0, Go.Value.int Go.IntKind.u32 0, Go.Value.int Go.IntKind.u32 0, Go.Value.int Go.IntKind.u32 0, Go.Value.int Go.IntKind.u32 0, Go.Value.int Go.IntKind.u32 0, Go.Value.int Go.IntKind.u32 0, Go.Value.int Go.IntKind.u32 0, Go.Value.int Go.IntKind.u32 0, Go.Value.int Go.IntKind.u32 0, Go.Value.int Go.IntKind.u32 0, Go.Value.int Go.IntKind.u32 0, Go.Value.int Go.IntKind.u32 0, Go.Value.int Go.IntKind.u32 0, Go.Value.int Go.IntKind.u32 0, Go.Value.int Go.IntKind.u32 0, Go.Value.int Go.IntKind.u32 0, Go.Value.int Go.IntKind.u32 0, Go.Value.int Go.IntKind.u32 0, Go.Value.int Go.IntKind.u32 0, Go.Value.int Go.IntKind.u32 0, Go.Value.int Go.IntKind.u32 0, Go.Value.int Go.IntKind.u32 0, Go.Value.int Go.IntKind.u32 0, Go.Value.int Go.IntKind.u32 0, Go.Value.int Go.IntKind.u32 0, Go.Value.int Go.IntKind.u32 0, Go.Value.int Go.IntKind.u32 0, Go.Value.int Go.IntKind.u32 0, Go.Value.int Go.IntKind.u32 0, Go.Value.int Go.IntKind.u32 0]) 64 256 := ⟨by kernel_rfl⟩
instance ckp28 : TyP Tryd.prog 28 [(0, 1), (1, 1)] := ⟨_, Tryd.underlying28, fun w => by simp [Tryd.sizeOf3]⟩
instance ckp73 : TyP Tryd.prog 73 [(0, 1), (1, 1)] := ⟨_, Tryd.underlying73, fun w => by simp [Tryd.sizeOf4, Tryd.sizeOf22]⟩
instance ckp115 : TyP Tryd.prog 115 [(0, 1), (1, 1)] := ⟨_, Tryd.underlying115, fun w => by simp [Tryd.sizeOf22, Tryd.sizeOf33]⟩
instance ckg110 : TyG Tryd.prog 110 := ⟨Tryd.eqGuardType110⟩
instance ckg25 : TyG Tryd.prog 25 := ⟨Tryd.eqGuardType25⟩
instance ckg119 : TyG Tryd.prog 119 := ⟨Tryd.eqGuardType119⟩
instance ckg121 : TyG Tryd.prog 121 := ⟨Tryd.eqGuardType121⟩
instance ckg135 : TyG Tryd.prog 135 := ⟨Tryd.eqGuardType135⟩
instance ckg115 : TyG Tryd.prog 115 := ⟨Tryd.eqGuardType115⟩
instance ckg73 : TyG Tryd.prog 73 := ⟨Tryd.eqGuardType73⟩
instance ckg28 : TyG Tryd.prog 28 := ⟨Tryd.eqGuardType28⟩
instance ckg84 : TyG Tryd.prog 84 := ⟨Tryd.eqGuardType84⟩
end Go.Proofs.YtgeepceieckooaaDoor
end

section
namespace Go.Proofs.YtgeepceieckooaaDoor
open Go Go.Ck
instance cku23 : TyU Tryd.prog 23 (Go.TypeDesc.pointer 68) := ⟨Tryd.underlying23⟩
instance cku26 : TyU Tryd.prog 26 (Go.TypeDesc.array 32 5) := ⟨Tryd.underlying26⟩
instance ckf30_0 : TyF Tryd.prog 30 0 0 3 1 := ⟨_, _, Tryd.underlying30, rfl, rfl, rfl, Tryd.sizeOf3⟩
instance ckf30_1 : TyF Tryd.prog 30 1 1 3 1 := ⟨_, _, Tryd.underlying30, rfl, rfl, rfl, Tryd.sizeOf3⟩
instance ckf30_2 : TyF Tryd.prog 30 2 2 28 2 := ⟨_, _, Tryd.underlying30, rfl, rfl, rfl, Tryd.sizeOf28⟩
instance ckf30_3 : TyF Tryd.prog 30 3 4 22 1 := ⟨_, _, Tryd.underlying30, rfl, rfl, rfl, Tryd.sizeOf22⟩
instance ckf32_0 : TyF Tryd.prog 32 0 0 26 32 := ⟨_, _, Tryd.underlying32, rfl, rfl, rfl, Tryd.sizeOf26⟩
instance ckf32_1 : TyF Tryd.prog 32 1 32 30 5 := ⟨_, _, Tryd.underlying32, rfl, rfl, rfl, Tryd.sizeOf30⟩
instance ckf32_2 : TyF Tryd.prog 32 2 37 22 1 := ⟨_, _, Tryd.underlying32, rfl, rfl, rfl, Tryd.sizeOf22⟩
instance ckf42_0 : TyF Tryd.prog 42 0 0 22 1 := ⟨_, _, Tryd.underlying42, rfl, rfl, rfl, Tryd.sizeOf22⟩
instance ckf42_1 : TyF Tryd.prog 42 1 1 3 1 := ⟨_, _, Tryd.underlying42, rfl, rfl, rfl, Tryd.sizeOf3⟩
instance ckf42_2 : TyF Tryd.prog 42 2 2 3 1 := ⟨_, _, Tryd.underlying42, rfl, rfl, rfl, Tryd.sizeOf3⟩
instance ckf42_3 : TyF Tryd.prog 42 3 3 28 2 := ⟨_, _, Tryd.underlying42, rfl, rfl, rfl, Tryd.sizeOf28⟩
instance ckf42_4 : TyF Tryd.prog 42 4 5 22 1 := ⟨_, _, Tryd.underlying42, rfl, rfl, rfl, Tryd.sizeOf22⟩
instance ckf42_5 : TyF Tryd.prog 42 5 6 22 1 := ⟨_, _, Tryd.underlying42, rfl, rfl, rfl, Tryd.sizeOf22⟩
instance ckf42_6 : TyF Tryd.prog 42 6 7 4 1 := ⟨_, _, Tryd.underlying42, rfl, rfl, rfl, Tryd.sizeOf4⟩
instance cku43 : TyU Tryd.prog 43 (Go.TypeDesc.pointer 63) := ⟨Tryd.underlying43⟩
instance cku60 : TyU Tryd.prog 60 (Go.TypeDesc.slice 9) := ⟨Tryd.underlying60⟩
instance cku61 : TyU Tryd.prog 61 (Go.TypeDesc.slice 171) := ⟨Tryd.underlying61⟩
instance ckf63_0 : TyF Tryd.prog 63 0 0 4 1 := ⟨_, _, Tryd.underlying63, rfl, rfl, rfl, Tryd.sizeOf4⟩
instance ckf63_1 : TyF Tryd.prog 63 1 1 9 1 := ⟨_, _, Tryd.underlying63, rfl, rfl, rfl, Tryd.sizeOf9⟩
instance ckf63_2 : TyF Tryd.prog 63 2 2 60 1 := ⟨_, _, Tryd.underlying63, rfl, rfl, rfl, Tryd.sizeOf60⟩
instance ckf63_3 : TyF Tryd.prog 63 3 3 61 1 := ⟨_, _, Tryd.underlying63, rfl, rfl, rfl, Tryd.sizeOf61⟩
instance cku64 : TyU Tryd.prog 64 (Go.TypeDesc.map 9 3) := ⟨Tryd.underlying64⟩
instance cku65 : TyU Tryd.prog 65 (Go.TypeDesc.map 81 4) := ⟨Tryd.underlying65⟩
instance cku66 : TyU Tryd.prog 66 (Go.TypeDesc.map 83 22) := ⟨Tryd.underlying66⟩
instance ckf68_0 : TyF Tryd.prog 68 0 0 4 1 := ⟨_, _, Tryd.underlying68, rfl, rfl, rfl, Tryd.sizeOf4⟩
instance ckf68_1 : TyF Tryd.prog 68 1 1 25 32 := ⟨_, _, Tryd.underlying68, rfl, rfl, rfl, Tryd.sizeOf25⟩
instance ckf68_2 : TyF Tryd.prog 68 2 33 64 1 := ⟨_, _, Tryd.underlying68, rfl, rfl, rfl, Tryd.sizeOf64⟩
instance ckf68_3 : TyF Tryd.prog 68 3 34 65 1 := ⟨_, _, Tryd.underlying68, rfl, rfl, rfl, Tryd.sizeOf65⟩
instance ckf68_4 : TyF Tryd.prog 68 4 35 66 1 := ⟨_, _, Tryd.underlying68, rfl, rfl, rfl, Tryd.sizeOf66⟩
instance ckf81_0 : TyF Tryd.prog 81 0 0 3 1 := ⟨_, _, Tryd.underlying81, rfl, rfl, rfl, Tryd.sizeOf3⟩
instance ckf81_1 : TyF Tryd.prog 81 1 1 3 1 := ⟨_, _, Tryd.underlying81, rfl, rfl, rfl, Tryd.sizeOf3⟩
instance ckf83_0 : TyF Tryd.prog 83 0 0 81 2 := ⟨_, _, Tryd.underlying83, rfl, rfl, rfl, Tryd.sizeOf81⟩
instance ckf83_1 : TyF Tryd.prog 83 1 2 3 1 := ⟨_, _, Tryd.underlying83, rfl, rfl, rfl, Tryd.sizeOf3⟩
instance ckf83_2 : TyF Tryd.prog 83 2 3 9 1 := ⟨_, _, Tryd.underlying83, rfl, rfl, rfl, Tryd.sizeOf9⟩
instance ckf83_3 : TyF Tryd.prog 83 3 4 9 1 := ⟨_, _, Tryd.underlying83, rfl, rfl, rfl, Tryd.sizeOf9⟩
instance cku100 : TyU Tryd.prog 100 (Go.TypeDesc.array 16 5) := ⟨Tryd.underlying100⟩
instance cku122 : TyU Tryd.prog 122 (Go.TypeDesc.array 16 95) := ⟨Tryd.underlying122⟩
instance cku126 : TyU Tryd.prog 126 (Go.TypeDesc.array 5 37) := ⟨Tryd.underlying126⟩
instance cku127 : TyU Tryd.prog 127 (Go.TypeDesc.array 5 37) := ⟨Tryd.underlying127⟩
instance cku138 : TyU Tryd.prog 138 (Go.TypeDesc.slice 95) := ⟨Tryd.underlying138⟩
instance cku143 : TyU Tryd.prog 143 (Go.TypeDesc.pointer 122) := ⟨Tryd.underlying143⟩
instance cku146 : TyU Tryd.prog 146 (Go.TypeDesc.array 17 5) := ⟨Tryd.underlying146⟩
instance cku151 : TyU Tryd.prog 151 (Go.TypeDesc.array 2 3) := ⟨Tryd.underlying151⟩
instance cku152 : TyU Tryd.prog 152 (Go.TypeDesc.array 2 151) := ⟨Tryd.underlying152⟩
instance ckf171_0 : TyF Tryd.prog 171 0 0 3 1 := ⟨_, _, Tryd.underlying171, rfl, rfl, rfl, Tryd.sizeOf3⟩
instance ckf171_1 : TyF Tryd.prog 171 1 1 3 1 := ⟨_, _, Tryd.underlying171, rfl, rfl, rfl, Tryd.sizeOf3⟩
instance ckf171_2 : TyF Tryd.prog 171 2 2 3 1 := ⟨_, _, Tryd.underlying171, rfl, rfl, rfl, Tryd.sizeOf3⟩
instance ckf171_3 : TyF Tryd.prog 171 3 3 9 1 := ⟨_, _, Tryd.underlying171, rfl, rfl, rfl, Tryd.sizeOf9⟩
instance ckf171_4 : TyF Tryd.prog 171 4 4 9 1 := ⟨_, _, Tryd.underlying171, rfl, rfl, rfl, Tryd.sizeOf9⟩
instance ckf171_5 : TyF Tryd.prog 171 5 5 9 1 := ⟨_, _, Tryd.underlying171, rfl, rfl, rfl, Tryd.sizeOf9⟩
instance ckf174_0 : TyF Tryd.prog 174 0 0 9 1 := ⟨_, _, Tryd.underlying174, rfl, rfl, rfl, Tryd.sizeOf9⟩
instance ckf174_1 : TyF Tryd.prog 174 1 1 3 1 := ⟨_, _, Tryd.underlying174, rfl, rfl, rfl, Tryd.sizeOf3⟩
instance ckf174_2 : TyF Tryd.prog 174 2 2 3 1 := ⟨_, _, Tryd.underlying174, rfl, rfl, rfl, Tryd.sizeOf3⟩
instance ckf174_3 : TyF Tryd.prog 174 3 3 28 2 := ⟨_, _, Tryd.underlying174, rfl, rfl, rfl, Tryd.sizeOf28⟩
instance ckf174_4 : TyF Tryd.prog 174 4 5 9 1 := ⟨_, _, Tryd.underlying174, rfl, rfl, rfl, Tryd.sizeOf9⟩
instance ckf174_5 : TyF Tryd.prog 174 5 6 9 1 := ⟨_, _, Tryd.underlying174, rfl, rfl, rfl, Tryd.sizeOf9⟩
instance cka23 : TyA Tryd.prog 23 false := ⟨Tryd.isAgg23⟩
instance cka26 : TyA Tryd.prog 26 true := ⟨Tryd.isAgg26⟩
instance cka30 : TyA Tryd.prog 30 true := ⟨Tryd.isAgg30⟩
instance cka32 : TyA Tryd.prog 32 true := ⟨Tryd.isAgg32⟩
instance cka42 : TyA Tryd.prog 42 true := ⟨Tryd.isAgg42⟩
instance cka43 : TyA Tryd.prog 43 false := ⟨Tryd.isAgg43⟩
instance cka60 : TyA Tryd.prog 60 false := ⟨Tryd.isAgg60⟩
instance cka61 : TyA Tryd.prog 61 false := ⟨Tryd.isAgg61⟩
instance cka63 : TyA Tryd.prog 63 true := ⟨Tryd.isAgg63⟩
instance cka64 : TyA Tryd.prog 64 false := ⟨Tryd.isAgg64⟩
instance cka65 : TyA Tryd.prog 65 false := ⟨Tryd.isAgg65⟩
instance cka66 : TyA Tryd.prog 66 false := ⟨Tryd.isAgg66⟩
instance cka68 : TyA Tryd.prog 68 true := ⟨Tryd.isAgg68⟩
instance cka81 : TyA Tryd.prog 81 true := ⟨Tryd.isAgg81⟩
instance cka83 : TyA Tryd.prog 83 true := ⟨Tryd.isAgg83⟩
instance cka100 : TyA Tryd.prog 100 true := ⟨Tryd.isAgg100⟩
instance cka122 : TyA Tryd.prog 122 true := ⟨Tryd.isAgg122⟩
instance cka126 : TyA Tryd.prog 126 true := ⟨Tryd.isAgg126⟩
instance cka127 : TyA Tryd.prog 127 true := ⟨Tryd.isAgg127⟩
instance cka138 : TyA Tryd.prog 138 false := ⟨Tryd.isAgg138⟩
instance cka143 : TyA Tryd.prog 143 false := ⟨Tryd.isAgg143⟩
instance cka146 : TyA Tryd.prog 146 true := ⟨Tryd.isAgg146⟩
instance cka151 : TyA Tryd.prog 151 true := ⟨Tryd.isAgg151⟩
instance cka152 : TyA Tryd.prog 152 true := ⟨Tryd.isAgg152⟩
instance cka171 : TyA Tryd.prog 171 true := ⟨Tryd.isAgg171⟩
instance cka174 : TyA Tryd.prog 174 true := ⟨Tryd.isAgg174⟩
instance cks23 : TyS Tryd.prog 23 1 := ⟨Tryd.sizeOf23⟩
instance cks26 : TyS Tryd.prog 26 32 := ⟨Tryd.sizeOf26⟩
instance cks30 : TyS Tryd.prog 30 5 := ⟨Tryd.sizeOf30⟩
instance cks32 : TyS Tryd.prog 32 38 := ⟨Tryd.sizeOf32⟩
instance cks42 : TyS Tryd.prog 42 8 := ⟨Tryd.sizeOf42⟩
instance cks43 : TyS Tryd.prog 43 1 := ⟨Tryd.sizeOf43⟩
instance cks60 : TyS Tryd.prog 60 1 := ⟨Tryd.sizeOf60⟩
instance cks61 : TyS Tryd.prog 61 1 := ⟨Tryd.sizeOf61⟩
instance cks63 : TyS Tryd.prog 63 4 := ⟨Tryd.sizeOf63⟩
instance cks64 : TyS Tryd.prog 64 1 := ⟨Tryd.sizeOf64⟩
instance cks65 : TyS Tryd.prog 65 1 := ⟨Tryd.sizeOf65⟩
instance cks66 : TyS Tryd.prog 66 1 := ⟨Tryd.sizeOf66⟩
instance cks68 : TyS Tryd.prog 68 36 := ⟨Tryd.sizeOf68⟩
instance cks81 : TyS Tryd.prog 81 2 := ⟨Tryd.sizeOf81⟩
instance cks83 : TyS Tryd.prog 83 5 := ⟨Tryd.sizeOf83⟩
instance cks100 : TyS Tryd.prog 100 16 := ⟨Tryd.sizeOf100⟩
instance cks122 : TyS Tryd.prog 122 16 := ⟨Tryd.sizeOf122⟩
instance cks126 : TyS Tryd.prog 126 5 := ⟨Tryd.sizeOf126⟩
instance cks127 : TyS Tryd.prog 127 5 := ⟨Tryd.sizeOf127⟩
instance cks138 : TyS Tryd.prog 138 1 := ⟨Tryd.sizeOf138⟩
instance cks143 : TyS Tryd.prog 143 1 := ⟨Tryd.sizeOf143⟩
instance cks146 : TyS Tryd.prog 146 17 := ⟨Tryd.sizeOf146⟩
instance cks151 : TyS Tryd.prog 151 2 := ⟨Tryd.sizeOf151⟩
instance cks152 : TyS Tryd.prog 152 4 := ⟨Tryd.sizeOf152⟩
instance cks171 : TyS Tryd.prog 171 6 := ⟨Tryd.sizeOf171⟩
instance cks174 : TyS Tryd.prog 174 7 := ⟨Tryd.sizeOf174⟩
instance ckz23 : TyZ Tryd.prog 23 (Go.Value.pointer none) := ⟨Tryd.zeroValue23⟩
instance ckz26 : TyZ Tryd.prog 26 (Go.Value.agg #[Go.Value.int Go.IntKind.u8 0, Go.Value.int Go.IntKind.u8 0, Go.Value.int Go.IntKind.u8 0, Go.Value.int Go.IntKind.u8 0, Go.Value.int Go.IntKind.u8 0, Go.Value.int Go.IntKind.u8 0, Go.Value.int Go.IntKind.u8 0, Go.Value.int Go.IntKind.u8 0, Go.Value.int Go.IntKind.u8 0, Go.Value.int Go.IntKind.u8 0, Go.Value.int Go.IntKind.u8 0, Go.Value.int Go.IntKind.u8 0, Go.Value.int Go.IntKind.u8 0, Go.Value.int Go.IntKind.u8 0, Go.Value.int Go.IntKind.u8 0, Go.Value.int Go.IntKind.u8 0, Go.Value.int Go.IntKind.u8 0, Go.Value.int Go.IntKind.u8 0, Go.Value.int Go.IntKind.u8 0, Go.Value.int Go.IntKind.u8 0, Go.Value.int Go.IntKind.u8 0, Go.Value.int Go.IntKind.u8 0, Go.Value.int Go.IntKind.u8 0, Go.Value.int Go.IntKind.u8 0, Go.Value.int Go.IntKind.u8 0, Go.Value.int Go.IntKind.u8 0, Go.Value.int Go.IntKind.u8 0, Go.Value.int Go.IntKind.u8 0, Go.Value.int Go.IntKind.u8 0, Go.Value.int Go.IntKind.u8 0, Go.Value.int Go.IntKind.u8 0, Go.Value.int Go.IntKind.u8 0]) := ⟨Tryd.zeroValue26⟩
instance ckz30 : TyZ Tryd.prog 30 (Go.Value.agg #[Go.Value.int Go.IntKind.i64 0, Go.Value.int Go.IntKind.i64 0, Go.Value.int Go.IntKind.i64 0, Go.Value.int Go.IntKind.i64 0, Go.Value.slice none 0 0]) := ⟨Tryd.zeroValue30⟩
instance ckz32 : TyZ Tryd.prog 32 (Go.Value.agg #[Go.Value.int Go.IntKind.u8 0, Go.Value.int Go.IntKind.u8 0, Go.Value.int Go.IntKind.u8 0, Go.Value.int Go.IntKind.u8 0, Go.Value.int Go.IntKind.u8 0, Go.Value.int Go.IntKind.u8 0, Go.Value.int Go.IntKind.u8 0, Go.Value.int Go.IntKind.u8 0, Go.Value.int Go.IntKind.u8 0, Go.Value.int Go.IntKind.u8 0, Go.Value.int Go.IntKind.u8 0, Go.Value.int Go.IntKind.u8 0, Go.Value.int Go.IntKind.u8 0, Go.Value.int Go.IntKind.u8 0, Go.Value.int Go.IntKind.u8 0, Go.Value.int Go.IntKind.u8 0, Go.Value.int Go.IntKind.u8 0, Go.Value.int Go.IntKind.u8 0, Go.Value.int Go.IntKind.u8 0, Go.Value.int Go.IntKind.u8 0, Go.Value.int Go.IntKind.u8 0, Go.Value.int Go.IntKind.u8 0, Go.Value.int Go.IntKind.u8 0, Go.Value.int Go.IntKind.u8 0, Go.Value.int Go.IntKind.u8 0, Go.Value.int Go.IntKind.u8 0, Go.Value.int Go.IntKind.u8 0, Go.Value.int Go.IntKind.u8 0, Go.Value.int Go.IntKind.u8 0, Go.Value.int Go.IntKind.u8 0, Go.Value.int Go.IntKind.u8 0, Go.Value.int Go.IntKind.u8 0, Go.Value.int Go.IntKind.i64 0, Go.Value.int Go.IntKind.i64 0, Go.Value.int Go.IntKind.i64 0, Go.Value.int Go.IntKind.i64 0, Go.Value.slice none 0 0, Go.Value.slice none 0 0]) := ⟨Tryd.zeroValue32⟩
instance ckz42 : TyZ Tryd.prog 42 (Go.Value.agg #[Go.Value.slice none 0 0, Go.Value.int Go.IntKind.i64 0, Go.Value.int Go.IntKind.i64 0, Go.Value.int Go.IntKind.i64 0, Go.Value.int Go.IntKind.i64 0, Go.Value.slice none 0 0, Go.Value.slice none 0 0, Go.Value.bool false]) := ⟨Tryd.zeroValue42⟩
instance ckz43 : TyZ Tryd.prog 43 (Go.Value.pointer none) := ⟨Tryd.zeroValue43⟩
instance ckz60 : TyZ Tryd.prog 60 (Go.Value.slice none 0 0) := ⟨Tryd.zeroValue60⟩
instance ckz61 : TyZ Tryd.prog 61 (Go.Value.slice none 0 0) := ⟨Tryd.zeroValue61⟩
instance ckz63 : TyZ Tryd.prog 63 (Go.Value.agg #[Go.Value.bool false, Go.Value.string { data := #[] }, Go.Value.slice none 0 0, Go.Value.slice none 0 0]) := ⟨Tryd.zeroValue63⟩
instance ckz64 : TyZ Tryd.prog 64 (Go.Value.map none) := ⟨Tryd.zeroValue64⟩
instance ckz65 : TyZ Tryd.prog 65 (Go.Value.map none) := ⟨Tryd.zeroValue65⟩
instance ckz66 : TyZ Tryd.prog 66 (Go.Value.map none) := ⟨Tryd.zeroValue66⟩
instance ckz68 : TyZ Tryd.prog 68 (Go.Value.agg #[Go.Value.bool false, Go.Value.int Go.IntKind.u8 0, Go.Value.int Go.IntKind.u8 0, Go.Value.int Go.IntKind.u8 0, Go.Value.int Go.IntKind.u8 0, Go.Value.int Go.IntKind.u8 0, Go.Value.int Go.IntKind.u8 0, Go.Value.int Go.IntKind.u8 0, Go.Value.int Go.IntKind.u8 0, Go.Value.int Go.IntKind.u8 0, Go.Value.int Go.IntKind.u8 0, Go.Value.int Go.IntKind.u8 0, Go.Value.int Go.IntKind.u8 0, Go.Value.int Go.IntKind.u8 0, Go.Value.int Go.IntKind.u8 0, Go.Value.int Go.IntKind.u8 0, Go.Value.int Go.IntKind.u8 0, Go.Value.int Go.IntKind.u8 0, Go.Value.int Go.IntKind.u8 0, Go.Value.int Go.IntKind.u8 0, Go.Value.int Go.IntKind.u8 0, Go.Value.int Go.IntKind.u8 0, Go.Value.int Go.IntKind.u8 0, Go.Value.int Go.IntKind.u8 0, Go.Value.int Go.IntKind.u8 0, Go.Value.int Go.IntKind.u8 0, Go.Value.int Go.IntKind.u8 0, Go.Value.int Go.IntKind.u8 0, Go.Value.int Go.IntKind.u8 0, Go.Value.int Go.IntKind.u8 0, Go.Value.int Go.IntKind.u8 0, Go.Value.int Go.IntKind.u8 0, Go.Value.int Go.IntKind.u8 0, Go.Value.map none, Go.Value.map none, Go.Value.map none]) := ⟨Tryd.zeroValue68⟩
instance ckz81 : TyZ Tryd.prog 81 (Go.Value.agg #[Go.Value.int Go.IntKind.i64 0, Go.Value.int Go.IntKind.i64 0]) := ⟨Tryd.zeroValue81⟩
instance ckz83 : TyZ Tryd.prog 83 (Go.Value.agg #[Go.Value.int Go.IntKind.i64 0, Go.Value.int Go.IntKind.i64 0, Go.Value.int Go.IntKind.i64 0, Go.Value.string { data := #[] }, Go.Value.string { data := #[] }]) := ⟨Tryd.zeroValue83⟩
instance ckz100 : TyZ Tryd.prog 100 (Go.Value.agg #[Go.Value.int Go.IntKind.u8 0, Go.Value.int Go.IntKind.u8 0, Go.Value.int Go.IntKind.u8 0, Go.Value.int Go.IntKind.u8 0, Go.Value.int Go.IntKind.u8 0, Go.Value.int Go.IntKind.u8 0, Go.Value.int Go.IntKind.u8 0, Go.Value.int Go.IntKind.u8 0, Go.Value.int Go.IntKind.u8 0, Go.Value.int Go.IntKind.u8 0, Go.Value.int Go.IntKind.u8 0, Go.Value.int Go.IntKind.u8 0, Go.Value.int Go.IntKind.u8 0, Go.Value.int Go.IntKind.u8 0, Go.Value.int Go.IntKind.u8 0, Go.Value.int Go.IntKind.u8 0]) := ⟨Tryd.zeroValue100⟩
instance ckz122 : TyZ Tryd.prog 122 (Go.Value.agg #[Go.Value.int Go.IntKind.u32 0, Go.Value.int Go.IntKind.u32 0, Go.Value.int Go.IntKind.u32 0, Go.Value.int Go.IntKind.u32 0, Go.Value.int Go.IntKind.u32 0, Go.Value.int Go.IntKind.u32 0, Go.Value.int Go.IntKind.u32 0, Go.Value.int Go.IntKind.u32 0, Go.Value.int Go.IntKind.u32 0, Go.Value.int Go.IntKind.u32 0, Go.Value.int Go.IntKind.u32 0, Go.Value.int Go.IntKind.u32 0, Go.Value.int Go.IntKind.u32 0, Go.Value.int Go.IntKind.u32 0, Go.Value.int Go.IntKind.u32 0, Go.Value.int Go.IntKind.u32 0]) := ⟨Tryd.zeroValue122⟩
instance ckz126 : TyZ Tryd.prog 126 (Go.Value.agg #[Go.Value.int Go.IntKind.u64 0, Go.Value.int Go.IntKind.u64 0, Go.Value.int Go.IntKind.u64 0, Go.Value.int Go.IntKind.u64 0, Go.Value.int Go.IntKind.u64 0]) := ⟨Tryd.zeroValue126⟩
instance ckz127 : TyZ Tryd.prog 127 (Go.Value.agg #[Go.Value.int Go.IntKind.u64 0, Go.Value.int Go.IntKind.u64 0, Go.Value.int Go.IntKind.u64 0, Go.Value.int Go.IntKind.u64 0, Go.Value.int Go.IntKind.u64 0]) := ⟨Tryd.zeroValue127⟩
instance ckz138 : TyZ Tryd.prog 138 (Go.Value.slice none 0 0) := ⟨Tryd.zeroValue138⟩
instance ckz143 : TyZ Tryd.prog 143 (Go.Value.pointer none) := ⟨Tryd.zeroValue143⟩
instance ckz146 : TyZ Tryd.prog 146 (Go.Value.agg #[Go.Value.int Go.IntKind.u8 0, Go.Value.int Go.IntKind.u8 0, Go.Value.int Go.IntKind.u8 0, Go.Value.int Go.IntKind.u8 0, Go.Value.int Go.IntKind.u8 0, Go.Value.int Go.IntKind.u8 0, Go.Value.int Go.IntKind.u8 0, Go.Value.int Go.IntKind.u8 0, Go.Value.int Go.IntKind.u8 0, Go.Value.int Go.IntKind.u8 0, Go.Value.int Go.IntKind.u8 0, Go.Value.int Go.IntKind.u8 0, Go.Value.int Go.IntKind.u8 0, Go.Value.int Go.IntKind.u8 0, Go.Value.int Go.IntKind.u8 0, Go.Value.int Go.IntKind.u8 0, Go.Value.int Go.IntKind.u8 0]) := ⟨Tryd.zeroValue146⟩
instance ckz151 : TyZ Tryd.prog 151 (Go.Value.agg #[Go.Value.int Go.IntKind.i64 0, Go.Value.int Go.IntKind.i64 0]) := ⟨Tryd.zeroValue151⟩
instance ckz152 : TyZ Tryd.prog 152 (Go.Value.agg #[Go.Value.int Go.IntKind.i64 0, Go.Value.int Go.IntKind.i64 0, Go.Value.int Go.IntKind.i64 0, Go.Value.int Go.IntKind.i64 0]) := ⟨Tryd.zeroValue152⟩
instance ckz171 : TyZ Tryd.prog 171 (Go.Value.agg #[Go.Value.int Go.IntKind.i64 0, Go.Value.int Go.IntKind.i64 0, Go.Value.int Go.IntKind.i64 0, Go.Value.string { data := #[] }, Go.Value.string { data := #[] }, Go.Value.string { data := #[] }]) := ⟨Tryd.zeroValue171⟩
instance ckz174 : TyZ Tryd.prog 174 (Go.Value.agg #[Go.Value.string { data := #[] }, Go.Value.int Go.IntKind.i64 0, Go.Value.int Go.IntKind.i64 0, Go.Value.int Go.IntKind.i64 0, Go.Value.int Go.IntKind.i64 0, Go.Value.string { data := #[] }, Go.Value.string { data := #[] }]) := ⟨Tryd.zeroValue174⟩
instance ckb23 : TyB Tryd.prog 23 (Go.Value.pointer none) 1 8 := ⟨by kernel_rfl⟩
instance ckb26 : TyB Tryd.prog 26 (Go.Value.agg #[Go.Value.int Go.IntKind.u8 0, Go.Value.int Go.IntKind.u8 0, Go.Value.int Go.IntKind.u8 0, Go.Value.int Go.IntKind.u8 0, Go.Value.int Go.IntKind.u8 0, Go.Value.int Go.IntKind.u8 0, Go.Value.int Go.IntKind.u8 0, Go.Value.int Go.IntKind.u8 0, Go.Value.int Go.IntKind.u8 0, Go.Value.int Go.IntKind.u8 0, Go.Value.int Go.IntKind.u8 0, Go.Value.int Go.IntKind.u8 0, Go.Value.int Go.IntKind.u8 0, Go.Value.int Go.IntKind.u8 0, Go.Value.int Go.IntKind.u8 0, Go.Value.int Go.IntKind.u8 0, Go.Value.int Go.IntKind.u8 0, Go.Value.int Go.IntKind.u8 0, Go.Value.int Go.IntKind.u8 0, Go.Value.int Go.IntKind.u8 0, Go.Value.int Go.IntKind.u8 0, Go.Value.int Go.IntKind.u8 0, Go.Value.int Go.IntKind.u8 0, Go.Value.int Go.IntKind.u8 0, Go.Value.int Go.IntKind.u8 0, Go.Value.int Go.IntKind.u8 0, Go.Value.int Go.IntKind.u8 0, Go.Value.int Go.IntKind.u8 0, Go.Value.int Go.IntKind.u8 0, Go.Value.int Go.IntKind.u8 0, Go.Value.int Go.IntKind.u8 0, Go.Value.int Go.IntKind.u8 0]) 32 32 := ⟨by kernel_rfl⟩
instance ckb30 : TyB Tryd.prog 30 (Go.Value.agg #[Go.Value.int Go.IntKind.i64 0, Go.Value.int Go.IntKind.i64 0, Go.Value.int Go.IntKind.i64 0, Go.Value.int Go.IntKind.i64 0, Go.Value.slice none 0 0]) 5 56 := ⟨by kernel_rfl⟩
instance ckb32 : TyB Tryd.prog 32 (Go.Value.agg #[Go.Value.int Go.IntKind.u8 0, Go.Value.int Go.IntKind.u8 0, Go.Value.int Go.IntKind.u8 0, Go.Value.int Go.IntKind.u8 0, Go.Value.int Go.IntKind.u8 0, Go.Value.int Go.IntKind.u8 0, Go.Value.int Go.IntKind.u8 0, Go.Value.int Go.IntKind.u8 0, Go.Value.int Go.IntKind.u8 0, Go.Value.int Go.IntKind.u8 0, Go.Value.int Go.IntKind.u8 0, Go.Value.int Go.IntKind.u8 0, Go.Value.int Go.IntKind.u8 0, Go.Value.int Go.IntKind.u8 0, Go.Value.int Go.IntKind.u8 0, Go.Value.int Go.IntKind.u8 0, Go.Value.int Go.IntKind.u8 0, Go.Value.int Go.IntKind.u8 0, Go.Value.int Go.IntKind.u8 0, Go.Value.int Go.IntKind.u8 0, Go.Value.int Go.IntKind.u8 0, Go.Value.int Go.IntKind.u8 0, Go.Value.int Go.IntKind.u8 0, Go.Value.int Go.IntKind.u8 0, Go.Value.int Go.IntKind.u8 0, Go.Value.int Go.IntKind.u8 0, Go.Value.int Go.IntKind.u8 0, Go.Value.int Go.IntKind.u8 0, Go.Value.int Go.IntKind.u8 0, Go.Value.int Go.IntKind.u8 0, Go.Value.int Go.IntKind.u8 0, Go.Value.int Go.IntKind.u8 0, Go.Value.int Go.IntKind.i64 0, Go.Value.int Go.IntKind.i64 0, Go.Value.int Go.IntKind.i64 0, Go.Value.int Go.IntKind.i64 0, Go.Value.slice none 0 0, Go.Value.slice none 0 0]) 38 112 := ⟨by kernel_rfl⟩
instance ckb42 : TyB Tryd.prog 42 (Go.Value.agg #[Go.Value.slice none 0 0, Go.Value.int Go.IntKind.i64 0, Go.Value.int Go.IntKind.i64 0, Go.Value.int Go.IntKind.i64 0, Go.Value.int Go.IntKind.i64 0, Go.Value.slice none 0 0, Go.Value.slice none 0 0, Go.Value.bool false]) 8 112 := ⟨by kernel_rfl⟩
instance ckb43 : TyB Tryd.prog 43 (Go.Value.pointer none) 1 8 := ⟨by kernel_rfl⟩
instance ckb60 : TyB Tryd.prog 60 (Go.Value.slice none 0 0) 1 24 := ⟨by kernel_rfl⟩
instance ckb61 : TyB Tryd.prog 61 (Go.Value.slice none 0 0) 1 24 := ⟨by kernel_rfl⟩
instance ckb63 : TyB Tryd.prog 63 (Go.Value.agg #[Go.Value.bool false, Go.Value.string { data := #[] }, Go.Value.slice none 0 0, Go.Value.slice none 0 0]) 4 72 := ⟨by kernel_rfl⟩
instance ckb64 : TyB Tryd.prog 64 (Go.Value.map none) 1 8 := ⟨by kernel_rfl⟩
instance ckb65 : TyB Tryd.prog 65 (Go.Value.map none) 1 8 := ⟨by kernel_rfl⟩
instance ckb66 : TyB Tryd.prog 66 (Go.Value.map none) 1 8 := ⟨by kernel_rfl⟩
instance ckb68 : TyB Tryd.prog 68 (Go.Value.agg #[Go.Value.bool false, Go.Value.int Go.IntKind.u8 0, Go.Value.int Go.IntKind.u8 0, Go.Value.int Go.IntKind.u8 0, Go.Value.int Go.IntKind.u8 0, Go.Value.int Go.IntKind.u8 0, Go.Value.int Go.IntKind.u8 0, Go.Value.int Go.IntKind.u8 0, Go.Value.int Go.IntKind.u8 0, Go.Value.int Go.IntKind.u8 0, Go.Value.int Go.IntKind.u8 0, Go.Value.int Go.IntKind.u8 0, Go.Value.int Go.IntKind.u8 0, Go.Value.int Go.IntKind.u8 0, Go.Value.int Go.IntKind.u8 0, Go.Value.int Go.IntKind.u8 0, Go.Value.int Go.IntKind.u8 0, Go.Value.int Go.IntKind.u8 0, Go.Value.int Go.IntKind.u8 0, Go.Value.int Go.IntKind.u8 0, Go.Value.int Go.IntKind.u8 0, Go.Value.int Go.IntKind.u8 0, Go.Value.int Go.IntKind.u8 0, Go.Value.int Go.IntKind.u8 0, Go.Value.int Go.IntKind.u8 0, Go.Value.int Go.IntKind.u8 0, Go.Value.int Go.IntKind.u8 0, Go.Value.int Go.IntKind.u8 0, Go.Value.int Go.IntKind.u8 0, Go.Value.int Go.IntKind.u8 0, Go.Value.int Go.IntKind.u8 0, Go.Value.int Go.IntKind.u8 0, Go.Value.int Go.IntKind.u8 0, Go.Value.map none, Go.Value.map none, Go.Value.map none]) 36 64 := ⟨by kernel_rfl⟩
instance ckb81 : TyB Tryd.prog 81 (Go.Value.agg #[Go.Value.int Go.IntKind.i64 0, Go.Value.int Go.IntKind.i64 0]) 2 16 := ⟨by kernel_rfl⟩
instance ckb83 : TyB Tryd.prog 83 (Go.Value.agg #[Go.Value.int Go.IntKind.i64 0, Go.Value.int Go.IntKind.i64 0, Go.Value.int Go.IntKind.i64 0, Go.Value.string { data := #[] }, Go.Value.string { data := #[] }]) 5 56 := ⟨by kernel_rfl⟩
instance ckb100 : TyB Tryd.prog 100 (Go.Value.agg #[Go.Value.int Go.IntKind.u8 0, Go.Value.int Go.IntKind.u8 0, Go.Value.int Go.IntKind.u8 0, Go.Value.int Go.IntKind.u8 0, Go.Value.int Go.IntKind.u8 0, Go.Value.int Go.IntKind.u8 0, Go.Value.int Go.IntKind.u8 0, Go.Value.int Go.IntKind.u8 0, Go.Value.int Go.IntKind.u8 0, Go.Value.int Go.IntKind.u8 0, Go.Value.int Go.IntKind.u8 0, Go.Value.int Go.IntKind.u8 0, Go.Value.int Go.IntKind.u8 0, Go.Value.int Go.IntKind.u8 0, Go.Value.int Go.IntKind.u8 0, Go.Value.int Go.IntKind.u8 0]) 16 16 := ⟨by kernel_rfl⟩
instance ckb122 : TyB Tryd.prog 122 (Go.Value.agg #[Go.Value.int Go.IntKind.u32 0, Go.Value.int Go.IntKind.u32 0, Go.Value.int Go.IntKind.u32 0, Go.Value.int Go.IntKind.u32 0, Go.Value.int Go.IntKind.u32 0, Go.Value.int Go.IntKind.u32 0, Go.Value.int Go.IntKind.u32 0, Go.Value.int Go.IntKind.u32 0, Go.Value.int Go.IntKind.u32 0, Go.Value.int Go.IntKind.u32 0, Go.Value.int Go.IntKind.u32 0, Go.Value.int Go.IntKind.u32 0, Go.Value.int Go.IntKind.u32 0, Go.Value.int Go.IntKind.u32 0, Go.Value.int Go.IntKind.u32 0, Go.Value.int Go.IntKind.u32 0]) 16 64 := ⟨by kernel_rfl⟩
instance ckb126 : TyB Tryd.prog 126 (Go.Value.agg #[Go.Value.int Go.IntKind.u64 0, Go.Value.int Go.IntKind.u64 0, Go.Value.int Go.IntKind.u64 0, Go.Value.int Go.IntKind.u64 0, Go.Value.int Go.IntKind.u64 0]) 5 40 := ⟨by kernel_rfl⟩
instance ckb127 : TyB Tryd.prog 127 (Go.Value.agg #[Go.Value.int Go.IntKind.u64 0, Go.Value.int Go.IntKind.u64 0, Go.Value.int Go.IntKind.u64 0, Go.Value.int Go.IntKind.u64 0, Go.Value.int Go.IntKind.u64 0]) 5 40 := ⟨by kernel_rfl⟩
instance ckb138 : TyB Tryd.prog 138 (Go.Value.slice none 0 0) 1 24 := ⟨by kernel_rfl⟩
instance ckb143 : TyB Tryd.prog 143 (Go.Value.pointer none) 1 8 := ⟨by kernel_rfl⟩
instance ckb146 : TyB Tryd.prog 146 (Go.Value.agg #[Go.Value.int Go.IntKind.u8 0, Go.Value.int Go.IntKind.u8 0, Go.Value.int Go.IntKind.u8 0, Go.Value.int Go.IntKind.u8 0, Go.Value.int Go.IntKind.u8 0, Go.Value.int Go.IntKind.u8 0, Go.Value.int Go.IntKind.u8 0, Go.Value.int Go.IntKind.u8 0, Go.Value.int Go.IntKind.u8 0, Go.Value.int Go.IntKind.u8 0, Go.Value.int Go.IntKind.u8 0, Go.Value.int Go.IntKind.u8 0, Go.Value.int Go.IntKind.u8 0, Go.Value.int Go.IntKind.u8 0, Go.Value.int Go.IntKind.u8 0, Go.Value.int Go.IntKind.u8 0, Go.Value.int Go.IntKind.u8 0]) 17 17 := ⟨by kernel_rfl⟩
instance ckb151 : TyB Tryd.prog 151 (Go.Value.agg #[Go.Value.int Go.IntKind.i64 0, Go.Value.int Go.IntKind.i64 0]) 2 16 := ⟨by kernel_rfl⟩
instance ckb152 : TyB Tryd.prog 152 (Go.Value.agg #[Go.Value.int Go.IntKind.i64 0, Go.Value.int Go.IntKind.i64 0, Go.Value.int Go.IntKind.i64 0, Go.Value.int Go.IntKind.i64 0]) 4 32 := ⟨by kernel_rfl⟩
instance ckb171 : TyB Tryd.prog 171 (Go.Value.agg #[Go.Value.int Go.IntKind.i64 0, Go.Value.int Go.IntKind.i64 0, Go.Value.int Go.IntKind.i64 0, Go.Value.string { data := #[] }, Go.Value.string { data := #[] }, Go.Value.string { data := #[] }]) 6 72 := ⟨by kernel_rfl⟩
instance ckb174 : TyB Tryd.prog 174 (Go.Value.agg #[Go.Value.string { data := #[] }, Go.Value.int Go.IntKind.i64 0, Go.Value.int Go.IntKind.i64 0, Go.Value.int Go.IntKind.i64 0, Go.Value.int Go.IntKind.i64 0, Go.Value.string { data := #[] }, Go.Value.string { data := #[] }]) 7 80 := ⟨by kernel_rfl⟩
instance ckp30 : TyP Tryd.prog 30 [(0, 1), (1, 1), (2, 2), (4, 1)] := ⟨_, Tryd.underlying30, fun w => by simp [Tryd.sizeOf3, Tryd.sizeOf22, Tryd.sizeOf28]⟩
instance ckp32 : TyP Tryd.prog 32 [(0, 32), (32, 5), (37, 1)] := ⟨_, Tryd.underlying32, fun w => by simp [Tryd.sizeOf22, Tryd.sizeOf26, Tryd.sizeOf30]⟩
instance ckp42 : TyP Tryd.prog 42 [(0, 1), (1, 1), (2, 1), (3, 2), (5, 1), (6, 1), (7, 1)] := ⟨_, Tryd.underlying42, fun w => by simp [Tryd.sizeOf3, Tryd.sizeOf4, Tryd.sizeOf22, Tryd.sizeOf28]⟩
instance ckp63 : TyP Tryd.prog 63 [(0, 1), (1, 1), (2, 1), (3, 1)] := ⟨_, Tryd.underlying63, fun w => by simp [Tryd.sizeOf4, Tryd.sizeOf9, Tryd.sizeOf60, Tryd.sizeOf61]⟩
instance ckp68 : TyP Tryd.prog 68 [(0, 1), (1, 32), (33, 1), (34, 1), (35, 1)] := ⟨_, Tryd.underlying68, fun w => by simp [Tryd.sizeOf4, Tryd.sizeOf25, Tryd.sizeOf64, Tryd.sizeOf65, Tryd.sizeOf66]⟩
instance ckp81 : TyP Tryd.prog 81 [(0, 1), (1, 1)] := ⟨_, Tryd.underlying81, fun w => by simp [Tryd.sizeOf3]⟩
instance ckp83 : TyP Tryd.prog 83 [(0, 2), (2, 1), (3, 1), (4, 1)] := ⟨_, Tryd.underlying83, fun w => by simp [Tryd.sizeOf3, Tryd.sizeOf9, Tryd.sizeOf81]⟩
instance ckp171 : TyP Tryd.prog 171 [(0, 1), (1, 1), (2, 1), (3, 1), (4, 1), (5, 1)] := ⟨_, Tryd.underlying171, fun w => by simp [Tryd.sizeOf3, Tryd.sizeOf9]⟩
instance ckp174 : TyP Tryd.prog 174 [(0, 1), (1, 1), (2, 1), (3, 2), (5, 1), (6, 1)] := ⟨_, Tryd.underlying174, fun w => by simp [Tryd.sizeOf3, Tryd.sizeOf9, Tryd.sizeOf28]⟩
instance ckg146 : TyG Tryd.prog 146 := ⟨Tryd.eqGuardType146⟩
instance ckg30 : TyG Tryd.prog 30 := ⟨Tryd.eqGuardType30⟩
instance ckg63 : TyG Tryd.prog 63 := ⟨Tryd.eqGuardType63⟩
instance ckg32 : TyG Tryd.prog 32 := ⟨Tryd.eqGuardType32⟩
instance ckg26 : TyG Tryd.prog 26 := ⟨Tryd.eqGuardType26⟩
instance ckg68 : TyG Tryd.prog 68 := ⟨Tryd.eqGuardType68⟩
instance ckg122 : TyG Tryd.prog 122 := ⟨Tryd.eqGuardType122⟩
instance ckg127 : TyG Tryd.prog 127 := ⟨Tryd.eqGuardType127⟩
instance ckg83 : TyG Tryd.prog 83 := ⟨Tryd.eqGuardType83⟩
instance ckg152 : TyG Tryd.prog 152 := ⟨Tryd.eqGuardType152⟩
instance ckg151 : TyG Tryd.prog 151 := ⟨Tryd.eqGuardType151⟩
instance ckg174 : TyG Tryd.prog 174 := ⟨Tryd.eqGuardType174⟩
instance ckg171 : TyG Tryd.prog 171 := ⟨Tryd.eqGuardType171⟩
instance ckg81 : TyG Tryd.prog 81 := ⟨Tryd.eqGuardType81⟩
instance ckg42 : TyG Tryd.prog 42 := ⟨Tryd.eqGuardType42⟩
instance ckg100 : TyG Tryd.prog 100 := ⟨Tryd.eqGuardType100⟩
instance ckg126 : TyG Tryd.prog 126 := ⟨Tryd.eqGuardType126⟩
end Go.Proofs.YtgeepceieckooaaDoor
end

section
namespace Go.Ck
open Go
set_option linter.unusedVariables false
theorem tq_ {p : Prop} (h : p := by (first|(apply yaa;rfl)|(apply yab;rfl)|(apply yac<;>rfl)|(apply yae;(·rfl);(·(first|exact yay 0 rfl rfl|exact yay 1 rfl rfl|exact yay 2 rfl rfl|exact yay 3 rfl rfl|exact yay 4 rfl rfl|exact yay 5 rfl rfl)))|(apply yad;(·rfl);(·first|exact yaz 0 rfl|exact yaz 1 rfl|exact yaz 2 rfl|exact yaz 3 rfl|exact yaz 4 rfl|exact yaz 5 rfl);(·rfl))|(apply yaf<;>rfl)|(apply yag<;>rfl)|(apply yah<;>rfl)|(apply yai<;>rfl)|(apply yaj<;>rfl)|(apply yak<;>rfl)|(apply yal<;>rfl)|(apply yam<;>rfl)|(apply yan;(·rfl);(·rfl);(·(unfold I64;omega)))|(apply yao;(·rfl);(·rfl);(·(unfold I64;omega)))|(apply yap;rfl)|(apply yaq;rfl)|(apply yar;rfl)|(apply yas<;>rfl)|(apply yat;rfl)|(apply yau<;>rfl)|(apply yav;(·rfl);(·rfl);(·omega);(·omega))|(apply yaw;(·rfl);(·rfl);(·omega);(·omega))|(apply yax<;>rfl))) : p := h
theorem tk_ {p : Prop} (h : p := by (first|(apply qv_lss_t;(·rfl);(·rfl);(·omega)) | (apply qv_lss_f;(·rfl);(·rfl);(·omega)) | (apply qv_leq_t;(·rfl);(·rfl);(·omega)) | (apply qv_leq_f;(·rfl);(·rfl);(·omega)) | (apply qv_gtr_t;(·rfl);(·rfl);(·omega)) | (apply qv_gtr_f;(·rfl);(·rfl);(·omega)) | (apply qv_geq_t;(·rfl);(·rfl);(·omega)) | (apply qv_geq_f;(·rfl);(·rfl);(·omega)) | (apply qv_eql_t;(·rfl);(·rfl);(·omega)) | (apply qv_eql_f;(·rfl);(·rfl);(·omega)) | (apply qv_neq_t;(·rfl);(·rfl);(·omega)) | (apply qv_neq_f;(·rfl);(·rfl);(·omega)))) : p := h
theorem th_ {p : Prop} (h : p := by (first|exact fun _ s => s | exact fun _ s => s.tl | exact fun _ s => s.tl.tl | exact fun _ s => s.tl.tl.tl | exact fun _ s => s.tl.tl.tl.tl)) : p := h
theorem to_ {p : Prop} (h : p := by (first|exact ybf | (refine .inl ?_;exact th_) | (refine .inr ?_;kernel_rfl))) : p := h
theorem ts_ {p : Prop} (h : p := by repeat' (first|exact Sub.nil | refine Sub.cons rfl rfl ?_)) : p := h
structure Bx (p : Prop) : Prop where
  o : p
theorem ta_ {G : Prop} {H : Nat → Prop} (k : ∀ b, H b) (h : Bx (∀ b, H b) → G := by (intro hk;(first|exact yba (ybb rfl) rfl rfl rfl ybf (fun _ => ybf) hk.1 | exact yba ybc rfl rfl rfl ybf (fun _ => ybf) hk.1 | exact yba (ybd rfl rfl rfl (ybe rfl rfl)) rfl rfl rfl ybf (fun _ => ybf) hk.1 | exact yba (ybd rfl rfl rfl rfl) rfl rfl rfl ybf (fun _ => ybf) hk.1))) : G := h ⟨k⟩
theorem tb_ {G A : Prop} {B H : Nat → Prop} (a : A) (b : ∀ b, B b) (k : ∀ b, H b) (h : Bx A → Bx (∀ b, B b) → Bx (∀ b, H b) → G := by (intro ha hb hk;(first|exact yba (ybb rfl) rfl rfl rfl ha.1 hb.1 hk.1 | exact yba ybc rfl rfl rfl ha.1 hb.1 hk.1 | exact yba (ybd rfl rfl rfl (ybe rfl rfl)) rfl rfl rfl ha.1 hb.1 hk.1 | exact yba (ybd rfl rfl rfl rfl) rfl rfl rfl ha.1 hb.1 hk.1))) : G := h ⟨a⟩ ⟨b⟩ ⟨k⟩
theorem tqs_ {G A B H : Prop} (a : A) (b : B) (k : H) (h : Bx A → Bx B → Bx H → G := by (intro ha hb hk;((first|refine ybg 0 rfl rfl rfl ?_ ?_ ?_ (by first|(refine ybh ?_;rfl)|rfl) rfl rfl ha.1 hb.1 ?_|refine ybg 1 rfl rfl rfl ?_ ?_ ?_ (by first|(refine ybh ?_;rfl)|rfl) rfl rfl ha.1 hb.1 ?_|refine ybg 2 rfl rfl rfl ?_ ?_ ?_ (by first|(refine ybh ?_;rfl)|rfl) rfl rfl ha.1 hb.1 ?_|refine ybg 3 rfl rfl rfl ?_ ?_ ?_ (by first|(refine ybh ?_;rfl)|rfl) rfl rfl ha.1 hb.1 ?_|refine ybg 4 rfl rfl rfl ?_ ?_ ?_ (by first|(refine ybh ?_;rfl)|rfl) rfl rfl ha.1 hb.1 ?_|refine ybg 5 rfl rfl rfl ?_ ?_ ?_ (by first|(refine ybh ?_;rfl)|rfl) rfl rfl ha.1 hb.1 ?_);(·rfl);(·exact nble rfl);(·rfl));exact hk.1)) : G := h ⟨a⟩ ⟨b⟩ ⟨k⟩
theorem t1_ {G H : Prop} (k : H) (h : Bx H → G := by (intro hk;(first|(refine ycf ?_;(first|(apply ybk;(·exact tq_);(·rfl);(·rfl))|refine ybl rfl rfl ?_|((first|refine ybg 0 rfl rfl rfl ?_ ?_ ?_ (by first|(refine ybh ?_;rfl)|rfl) rfl rfl ybf ybf ?_|refine ybg 1 rfl rfl rfl ?_ ?_ ?_ (by first|(refine ybh ?_;rfl)|rfl) rfl rfl ybf ybf ?_|refine ybg 2 rfl rfl rfl ?_ ?_ ?_ (by first|(refine ybh ?_;rfl)|rfl) rfl rfl ybf ybf ?_|refine ybg 3 rfl rfl rfl ?_ ?_ ?_ (by first|(refine ybh ?_;rfl)|rfl) rfl rfl ybf ybf ?_|refine ybg 4 rfl rfl rfl ?_ ?_ ?_ (by first|(refine ybh ?_;rfl)|rfl) rfl rfl ybf ybf ?_|refine ybg 5 rfl rfl rfl ?_ ?_ ?_ (by first|(refine ybh ?_;rfl)|rfl) rfl rfl ybf ybf ?_);(·rfl);(·exact nble rfl);(·rfl))|refine ycg ?_))|(refine ych ?_;(first|refine ybo ?_|refine ybp ?_|refine ybq ?_|refine ybr ?_|refine ybs ?_|refine ybt ?_|refine ybu rfl ?_|refine ybv rfl ?_))|(refine yci ?_;(first|refine yby ?_|refine ybz ?_|refine yca ?_|refine ycb ?_|refine ycc ?_|refine ycd ?_|refine yce rfl ?_)));exact hk.1)) : G := h ⟨k⟩
theorem tw_ {G H : Prop} (k : H) (h : Bx H → G := by (intro hk;(first|(refine ycf ?_;(first|(apply ybk;(·exact tq_);(·rfl);(·rfl))|refine ybl rfl rfl ?_|((first|refine ybg 0 rfl rfl rfl ?_ ?_ ?_ (by first|(refine ybh ?_;rfl)|rfl) rfl rfl ybf ybf ?_|refine ybg 1 rfl rfl rfl ?_ ?_ ?_ (by first|(refine ybh ?_;rfl)|rfl) rfl rfl ybf ybf ?_|refine ybg 2 rfl rfl rfl ?_ ?_ ?_ (by first|(refine ybh ?_;rfl)|rfl) rfl rfl ybf ybf ?_|refine ybg 3 rfl rfl rfl ?_ ?_ ?_ (by first|(refine ybh ?_;rfl)|rfl) rfl rfl ybf ybf ?_|refine ybg 4 rfl rfl rfl ?_ ?_ ?_ (by first|(refine ybh ?_;rfl)|rfl) rfl rfl ybf ybf ?_|refine ybg 5 rfl rfl rfl ?_ ?_ ?_ (by first|(refine ybh ?_;rfl)|rfl) rfl rfl ybf ybf ?_);(·rfl);(·exact nble rfl);(·rfl))|refine ycg ?_))|(refine ych ?_;(first|refine ybo ?_|refine ybp ?_|refine ybq ?_|refine ybr ?_|refine ybs ?_|refine ybt ?_|refine ybu rfl ?_|refine ybv rfl ?_))|(refine yci ?_;(first|refine yby ?_|refine ybz ?_|refine yca ?_|refine ycb ?_|refine ycc ?_|refine ycd ?_|refine yce rfl ?_)));(repeat (first|(refine ycf ?_;(first|(apply ybk;(·exact tq_);(·rfl);(·rfl))|refine ybl rfl rfl ?_|((first|refine ybg 0 rfl rfl rfl ?_ ?_ ?_ (by first|(refine ybh ?_;rfl)|rfl) rfl rfl ybf ybf ?_|refine ybg 1 rfl rfl rfl ?_ ?_ ?_ (by first|(refine ybh ?_;rfl)|rfl) rfl rfl ybf ybf ?_|refine ybg 2 rfl rfl rfl ?_ ?_ ?_ (by first|(refine ybh ?_;rfl)|rfl) rfl rfl ybf ybf ?_|refine ybg 3 rfl rfl rfl ?_ ?_ ?_ (by first|(refine ybh ?_;rfl)|rfl) rfl rfl ybf ybf ?_|refine ybg 4 rfl rfl rfl ?_ ?_ ?_ (by first|(refine ybh ?_;rfl)|rfl) rfl rfl ybf ybf ?_|refine ybg 5 rfl rfl rfl ?_ ?_ ?_ (by first|(refine ybh ?_;rfl)|rfl) rfl rfl ybf ybf ?_);(·rfl);(·exact nble rfl);(·rfl))|refine ycg ?_))|(refine ych ?_;(first|refine ybo ?_|refine ybp ?_|refine ybq ?_|refine ybr ?_|refine ybs ?_|refine ybt ?_|refine ybu rfl ?_|refine ybv rfl ?_))|(refine yci ?_;(first|refine yby ?_|refine ybz ?_|refine yca ?_|refine ycb ?_|refine ycc ?_|refine ycd ?_|refine yce rfl ?_))));exact hk.1)) : G := h ⟨k⟩
end Go.Ck
end

section
namespace Go.Ck
open Go
set_option linter.unusedVariables false
section
variable {P : Program} {n : Nat} {K : Bs} {F : List (Nat × Value)} {h : View} {L : List Res} {Q : Exit → Act → World → Prop}
theorem St.put {K : Bs} {h : View} {b : Nat} {o o' : Obj} {L : List Res} {w : World} (s : St K h (Res.blk b o :: L) w) : St K h (Res.blk b o' :: L) (w.putObj b o') := by
  have hlt : b < w.heap.size := (Res.blk b o).lt w (s.hd.own _ (List.mem_cons_self ..)) b (List.mem_singleton.2 rfl)
  exact s.write rfl rfl rfl (Nat.le_refl _) (by simp) (fun k hk => World.putObj_heap_other hk) (World.putObj_heap_same hlt)
def LI (P : Program) (n : Nat) (K : Bs) (ops : Array Oper) (rs : List Oper) (F : List (Nat × Value)) (h : View) (L : List Res) (Q : Exit → Act → World → Prop) : Prop :=
  ∀ a w, Fr n F a → St K h L w → wpListIn Fence.wide 0 P ops Q rs a w
end
end Go.Ck
end

section
namespace Go.Ck
open Go
set_option linter.unusedVariables false
theorem qv_lss_t {P : Program} {n : Nat} {F : List (Nat × Value)} {h : View} {L : List Res} {dst : Option Nat} {ty : Nat} {pos : String} {af : Array Edge} {gd : Option (Nat × Bool)} {T T' : Nat} {x y : Operand} {k : IntKind} {i j : Int} (hx : ev F x = some (.int k i)) (hy : ev F y = some (.int k j)) (hr : i < j) :
    QV P n F h L ⟨dst, .binOp .lss T x y T', ty, pos, af, gd⟩ (.bool true) := by
  have := yah (P := P) (n := n) (h := h) (L := L) (dst := dst) (ty := ty) (pos := pos) (af := af) (gd := gd) (T := T) (T' := T') hx hy
  rwa [decide_eq_true hr] at this
theorem qv_lss_f {P : Program} {n : Nat} {F : List (Nat × Value)} {h : View} {L : List Res} {dst : Option Nat} {ty : Nat} {pos : String} {af : Array Edge} {gd : Option (Nat × Bool)} {T T' : Nat} {x y : Operand} {k : IntKind} {i j : Int} (hx : ev F x = some (.int k i)) (hy : ev F y = some (.int k j)) (hr : ¬ (i < j)) :
    QV P n F h L ⟨dst, .binOp .lss T x y T', ty, pos, af, gd⟩ (.bool false) := by
  have := yah (P := P) (n := n) (h := h) (L := L) (dst := dst) (ty := ty) (pos := pos) (af := af) (gd := gd) (T := T) (T' := T') hx hy
  rwa [decide_eq_false hr] at this
theorem qv_leq_t {P : Program} {n : Nat} {F : List (Nat × Value)} {h : View} {L : List Res} {dst : Option Nat} {ty : Nat} {pos : String} {af : Array Edge} {gd : Option (Nat × Bool)} {T T' : Nat} {x y : Operand} {k : IntKind} {i j : Int} (hx : ev F x = some (.int k i)) (hy : ev F y = some (.int k j)) (hr : i ≤ j) :
    QV P n F h L ⟨dst, .binOp .leq T x y T', ty, pos, af, gd⟩ (.bool true) := by
  have := yai (P := P) (n := n) (h := h) (L := L) (dst := dst) (ty := ty) (pos := pos) (af := af) (gd := gd) (T := T) (T' := T') hx hy
  rwa [decide_eq_true hr] at this
theorem qv_leq_f {P : Program} {n : Nat} {F : List (Nat × Value)} {h : View} {L : List Res} {dst : Option Nat} {ty : Nat} {pos : String} {af : Array Edge} {gd : Option (Nat × Bool)} {T T' : Nat} {x y : Operand} {k : IntKind} {i j : Int} (hx : ev F x = some (.int k i)) (hy : ev F y = some (.int k j)) (hr : ¬ (i ≤ j)) :
    QV P n F h L ⟨dst, .binOp .leq T x y T', ty, pos, af, gd⟩ (.bool false) := by
  have := yai (P := P) (n := n) (h := h) (L := L) (dst := dst) (ty := ty) (pos := pos) (af := af) (gd := gd) (T := T) (T' := T') hx hy
  rwa [decide_eq_false hr] at this
theorem qv_gtr_t {P : Program} {n : Nat} {F : List (Nat × Value)} {h : View} {L : List Res} {dst : Option Nat} {ty : Nat} {pos : String} {af : Array Edge} {gd : Option (Nat × Bool)} {T T' : Nat} {x y : Operand} {k : IntKind} {i j : Int} (hx : ev F x = some (.int k i)) (hy : ev F y = some (.int k j)) (hr : j < i) :
    QV P n F h L ⟨dst, .binOp .gtr T x y T', ty, pos, af, gd⟩ (.bool true) := by
  have := yaj (P := P) (n := n) (h := h) (L := L) (dst := dst) (ty := ty) (pos := pos) (af := af) (gd := gd) (T := T) (T' := T') hx hy
  rwa [decide_eq_true hr] at this
theorem qv_gtr_f {P : Program} {n : Nat} {F : List (Nat × Value)} {h : View} {L : List Res} {dst : Option Nat} {ty : Nat} {pos : String} {af : Array Edge} {gd : Option (Nat × Bool)} {T T' : Nat} {x y : Operand} {k : IntKind} {i j : Int} (hx : ev F x = some (.int k i)) (hy : ev F y = some (.int k j)) (hr : ¬ (j < i)) :
    QV P n F h L ⟨dst, .binOp .gtr T x y T', ty, pos, af, gd⟩ (.bool false) := by
  have := yaj (P := P) (n := n) (h := h) (L := L) (dst := dst) (ty := ty) (pos := pos) (af := af) (gd := gd) (T := T) (T' := T') hx hy
  rwa [decide_eq_false hr] at this
theorem qv_geq_t {P : Program} {n : Nat} {F : List (Nat × Value)} {h : View} {L : List Res} {dst : Option Nat} {ty : Nat} {pos : String} {af : Array Edge} {gd : Option (Nat × Bool)} {T T' : Nat} {x y : Operand} {k : IntKind} {i j : Int} (hx : ev F x = some (.int k i)) (hy : ev F y = some (.int k j)) (hr : j ≤ i) :
    QV P n F h L ⟨dst, .binOp .geq T x y T', ty, pos, af, gd⟩ (.bool true) := by
  have := yak (P := P) (n := n) (h := h) (L := L) (dst := dst) (ty := ty) (pos := pos) (af := af) (gd := gd) (T := T) (T' := T') hx hy
  rwa [decide_eq_true hr] at this
theorem qv_geq_f {P : Program} {n : Nat} {F : List (Nat × Value)} {h : View} {L : List Res} {dst : Option Nat} {ty : Nat} {pos : String} {af : Array Edge} {gd : Option (Nat × Bool)} {T T' : Nat} {x y : Operand} {k : IntKind} {i j : Int} (hx : ev F x = some (.int k i)) (hy : ev F y = some (.int k j)) (hr : ¬ (j ≤ i)) :
    QV P n F h L ⟨dst, .binOp .geq T x y T', ty, pos, af, gd⟩ (.bool false) := by
  have := yak (P := P) (n := n) (h := h) (L := L) (dst := dst) (ty := ty) (pos := pos) (af := af) (gd := gd) (T := T) (T' := T') hx hy
  rwa [decide_eq_false hr] at this
theorem qv_eql_t {P : Program} {n : Nat} {F : List (Nat × Value)} {h : View} {L : List Res} {dst : Option Nat} {ty : Nat} {pos : String} {af : Array Edge} {gd : Option (Nat × Bool)} {T T' : Nat} {x y : Operand} {k : IntKind} {i j : Int} (hx : ev F x = some (.int k i)) (hy : ev F y = some (.int k j)) (hr : i = j) :
    QV P n F h L ⟨dst, .binOp .eql T x y T', ty, pos, af, gd⟩ (.bool true) := by
  have := yal (P := P) (n := n) (h := h) (L := L) (dst := dst) (ty := ty) (pos := pos) (af := af) (gd := gd) (T := T) (T' := T') hx hy
  rwa [decide_eq_true hr] at this
theorem qv_eql_f {P : Program} {n : Nat} {F : List (Nat × Value)} {h : View} {L : List Res} {dst : Option Nat} {ty : Nat} {pos : String} {af : Array Edge} {gd : Option (Nat × Bool)} {T T' : Nat} {x y : Operand} {k : IntKind} {i j : Int} (hx : ev F x = some (.int k i)) (hy : ev F y = some (.int k j)) (hr : ¬ (i = j)) :
    QV P n F h L ⟨dst, .binOp .eql T x y T', ty, pos, af, gd⟩ (.bool false) := by
  have := yal (P := P) (n := n) (h := h) (L := L) (dst := dst) (ty := ty) (pos := pos) (af := af) (gd := gd) (T := T) (T' := T') hx hy
  rwa [decide_eq_false hr] at this
theorem qv_neq_t {P : Program} {n : Nat} {F : List (Nat × Value)} {h : View} {L : List Res} {dst : Option Nat} {ty : Nat} {pos : String} {af : Array Edge} {gd : Option (Nat × Bool)} {T T' : Nat} {x y : Operand} {k : IntKind} {i j : Int} (hx : ev F x = some (.int k i)) (hy : ev F y = some (.int k j)) (hr : i ≠ j) :
    QV P n F h L ⟨dst, .binOp .neq T x y T', ty, pos, af, gd⟩ (.bool true) := by
  have := yam (P := P) (n := n) (h := h) (L := L) (dst := dst) (ty := ty) (pos := pos) (af := af) (gd := gd) (T := T) (T' := T') hx hy
  rwa [decide_eq_true hr] at this
theorem qv_neq_f {P : Program} {n : Nat} {F : List (Nat × Value)} {h : View} {L : List Res} {dst : Option Nat} {ty : Nat} {pos : String} {af : Array Edge} {gd : Option (Nat × Bool)} {T T' : Nat} {x y : Operand} {k : IntKind} {i j : Int} (hx : ev F x = some (.int k i)) (hy : ev F y = some (.int k j)) (hr : ¬ (i ≠ j)) :
    QV P n F h L ⟨dst, .binOp .neq T x y T', ty, pos, af, gd⟩ (.bool false) := by
  have := yam (P := P) (n := n) (h := h) (L := L) (dst := dst) (ty := ty) (pos := pos) (af := af) (gd := gd) (T := T) (T' := T') hx hy
  rwa [decide_eq_false hr] at this
end Go.Ck
end
