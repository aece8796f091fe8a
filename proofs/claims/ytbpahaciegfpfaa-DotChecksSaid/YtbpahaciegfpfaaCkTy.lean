/-
  CkTy: what the translation says of its types, as instances that are found by the numbers.
  Conditions: none.
-/
import Derived.Test.YtbpahaciegfpfaaCkMore
import Derived.Test.YtbpahaciegfpfaaRows
namespace Go.Proofs.Ytbpahaciegfpfaa
open Go Go.Ck

instance cku3 : TyU Try.prog 3 (Go.TypeDesc.int Go.IntKind.i64) := ⟨Try.underlying3⟩
instance cku4 : TyU Try.prog 4 (Go.TypeDesc.bool) := ⟨Try.underlying4⟩
instance cku22 : TyU Try.prog 22 (Go.TypeDesc.slice 24) := ⟨Try.underlying22⟩
instance ckf24_0 : TyF Try.prog 24 0 0 3 1 := ⟨_, _, Try.underlying24, rfl, rfl, rfl, Try.sizeOf3⟩
instance ckf24_1 : TyF Try.prog 24 1 1 3 1 := ⟨_, _, Try.underlying24, rfl, rfl, rfl, Try.sizeOf3⟩
instance cku25 : TyU Try.prog 25 (Go.TypeDesc.array 16 3) := ⟨Try.underlying25⟩
instance ckf27_0 : TyF Try.prog 27 0 0 25 16 := ⟨_, _, Try.underlying27, rfl, rfl, rfl, Try.sizeOf25⟩
instance ckf27_1 : TyF Try.prog 27 1 16 22 1 := ⟨_, _, Try.underlying27, rfl, rfl, rfl, Try.sizeOf22⟩
instance cku28 : TyU Try.prog 28 (Go.TypeDesc.int Go.IntKind.i64) := ⟨Try.underlying28⟩
instance ckf36_0 : TyF Try.prog 36 0 0 25 16 := ⟨_, _, Try.underlying36, rfl, rfl, rfl, Try.sizeOf25⟩
instance ckf36_1 : TyF Try.prog 36 1 16 22 1 := ⟨_, _, Try.underlying36, rfl, rfl, rfl, Try.sizeOf22⟩
instance cku41 : TyU Try.prog 41 (Go.TypeDesc.int Go.IntKind.u64) := ⟨Try.underlying41⟩
instance cku90 : TyU Try.prog 90 (Go.TypeDesc.slice 22) := ⟨Try.underlying90⟩
instance cku111 : TyU Try.prog 111 (Go.TypeDesc.slice 3) := ⟨Try.underlying111⟩
instance cka3 : TyA Try.prog 3 false := ⟨Try.isAgg3⟩
instance cka4 : TyA Try.prog 4 false := ⟨Try.isAgg4⟩
instance cka22 : TyA Try.prog 22 false := ⟨Try.isAgg22⟩
instance cka24 : TyA Try.prog 24 true := ⟨Try.isAgg24⟩
instance cka25 : TyA Try.prog 25 true := ⟨Try.isAgg25⟩
instance cka27 : TyA Try.prog 27 true := ⟨Try.isAgg27⟩
instance cka28 : TyA Try.prog 28 false := ⟨Try.isAgg28⟩
instance cka36 : TyA Try.prog 36 true := ⟨Try.isAgg36⟩
instance cka41 : TyA Try.prog 41 false := ⟨Try.isAgg41⟩
instance cka90 : TyA Try.prog 90 false := ⟨Try.isAgg90⟩
instance cka111 : TyA Try.prog 111 false := ⟨Try.isAgg111⟩
instance cks3 : TyS Try.prog 3 1 := ⟨Try.sizeOf3⟩
instance cks4 : TyS Try.prog 4 1 := ⟨Try.sizeOf4⟩
instance cks22 : TyS Try.prog 22 1 := ⟨Try.sizeOf22⟩
instance cks24 : TyS Try.prog 24 2 := ⟨Try.sizeOf24⟩
instance cks25 : TyS Try.prog 25 16 := ⟨Try.sizeOf25⟩
instance cks27 : TyS Try.prog 27 17 := ⟨Try.sizeOf27⟩
instance cks28 : TyS Try.prog 28 1 := ⟨Try.sizeOf28⟩
instance cks36 : TyS Try.prog 36 17 := ⟨Try.sizeOf36⟩
instance cks41 : TyS Try.prog 41 1 := ⟨Try.sizeOf41⟩
instance cks90 : TyS Try.prog 90 1 := ⟨Try.sizeOf90⟩
instance cks111 : TyS Try.prog 111 1 := ⟨Try.sizeOf111⟩
instance ckz3 : TyZ Try.prog 3 (Go.Value.int Go.IntKind.i64 0) := ⟨Try.zeroValue3⟩
instance ckz4 : TyZ Try.prog 4 (Go.Value.bool false) := ⟨Try.zeroValue4⟩
instance ckz22 : TyZ Try.prog 22 (Go.Value.slice none 0 0) := ⟨Try.zeroValue22⟩
instance ckz24 : TyZ Try.prog 24 (Go.Value.agg #[Go.Value.int Go.IntKind.i64 0, Go.Value.int Go.IntKind.i64 0]) := ⟨Try.zeroValue24⟩
instance ckz25 : TyZ Try.prog 25 (Go.Value.agg #[Go.Value.int Go.IntKind.i64 0, Go.Value.int Go.IntKind.i64 0, Go.Value.int Go.IntKind.i64 0, Go.Value.int Go.IntKind.i64 0, Go.Value.int Go.IntKind.i64 0, Go.Value.int Go.IntKind.i64 0, Go.Value.int Go.IntKind.i64 0, Go.Value.int Go.IntKind.i64 0, Go.Value.int Go.IntKind.i64 0, Go.Value.int Go.IntKind.i64 0, Go.Value.int Go.IntKind.i64 0, Go.Value.int Go.IntKind.i64 0, Go.Value.int Go.IntKind.i64 0, Go.Value.int Go.IntKind.i64 0, Go.Value.int Go.IntKind.i64 0, Go.Value.int Go.IntKind.i64 0]) := ⟨Try.zeroValue25⟩
instance ckz27 : TyZ Try.prog 27 (Go.Value.agg #[Go.Value.int Go.IntKind.i64 0, Go.Value.int Go.IntKind.i64 0, Go.Value.int Go.IntKind.i64 0, Go.Value.int Go.IntKind.i64 0, Go.Value.int Go.IntKind.i64 0, Go.Value.int Go.IntKind.i64 0, Go.Value.int Go.IntKind.i64 0, Go.Value.int Go.IntKind.i64 0, Go.Value.int Go.IntKind.i64 0, Go.Value.int Go.IntKind.i64 0, Go.Value.int Go.IntKind.i64 0, Go.Value.int Go.IntKind.i64 0, Go.Value.int Go.IntKind.i64 0, Go.Value.int Go.IntKind.i64 0, Go.Value.int Go.IntKind.i64 0, Go.Value.int Go.IntKind.i64 0, Go.Value.slice none 0 0]) := ⟨Try.zeroValue27⟩
instance ckz28 : TyZ Try.prog 28 (Go.Value.int Go.IntKind.i64 0) := ⟨Try.zeroValue28⟩
instance ckz36 : TyZ Try.prog 36 (Go.Value.agg #[Go.Value.int Go.IntKind.i64 0, Go.Value.int Go.IntKind.i64 0, Go.Value.int Go.IntKind.i64 0, Go.Value.int Go.IntKind.i64 0, Go.Value.int Go.IntKind.i64 0, Go.Value.int Go.IntKind.i64 0, Go.Value.int Go.IntKind.i64 0, Go.Value.int Go.IntKind.i64 0, Go.Value.int Go.IntKind.i64 0, Go.Value.int Go.IntKind.i64 0, Go.Value.int Go.IntKind.i64 0, Go.Value.int Go.IntKind.i64 0, Go.Value.int Go.IntKind.i64 0, Go.Value.int Go.IntKind.i64 0, Go.Value.int Go.IntKind.i64 0, Go.Value.int Go.IntKind.i64 0, Go.Value.slice none 0 0]) := ⟨Try.zeroValue36⟩
instance ckz41 : TyZ Try.prog 41 (Go.Value.int Go.IntKind.u64 0) := ⟨Try.zeroValue41⟩
instance ckz90 : TyZ Try.prog 90 (Go.Value.slice none 0 0) := ⟨Try.zeroValue90⟩
instance ckz111 : TyZ Try.prog 111 (Go.Value.slice none 0 0) := ⟨Try.zeroValue111⟩
instance ckb3 : TyB Try.prog 3 (Go.Value.int Go.IntKind.i64 0) 1 8 := ⟨by kernel_rfl⟩
instance ckb4 : TyB Try.prog 4 (Go.Value.bool false) 1 1 := ⟨by kernel_rfl⟩
instance ckb22 : TyB Try.prog 22 (Go.Value.slice none 0 0) 1 24 := ⟨by kernel_rfl⟩
instance ckb24 : TyB Try.prog 24 (Go.Value.agg #[Go.Value.int Go.IntKind.i64 0, Go.Value.int Go.IntKind.i64 0]) 2 16 := ⟨by kernel_rfl⟩
instance ckb25 : TyB Try.prog 25 (Go.Value.agg #[Go.Value.int Go.IntKind.i64 0, Go.Value.int Go.IntKind.i64 0, Go.Value.int Go.IntKind.i64 0, Go.Value.int Go.IntKind.i64 0, Go.Value.int Go.IntKind.i64 0, Go.Value.int Go.IntKind.i64 0, Go.Value.int Go.IntKind.i64 0, Go.Value.int Go.IntKind.i64 0, Go.Value.int Go.IntKind.i64 0, Go.Value.int Go.IntKind.i64 0, Go.Value.int Go.IntKind.i64 0, Go.Value.int Go.IntKind.i64 0, Go.Value.int Go.IntKind.i64 0, Go.Value.int Go.IntKind.i64 0, Go.Value.int Go.IntKind.i64 0, Go.Value.int Go.IntKind.i64 0]) 16 128 := ⟨by kernel_rfl⟩
instance ckb27 : TyB Try.prog 27 (Go.Value.agg #[Go.Value.int Go.IntKind.i64 0, Go.Value.int Go.IntKind.i64 0, Go.Value.int Go.IntKind.i64 0, Go.Value.int Go.IntKind.i64 0, Go.Value.int Go.IntKind.i64 0, Go.Value.int Go.IntKind.i64 0, Go.Value.int Go.IntKind.i64 0, Go.Value.int Go.IntKind.i64 0, Go.Value.int Go.IntKind.i64 0, Go.Value.int Go.IntKind.i64 0, Go.Value.int Go.IntKind.i64 0, Go.Value.int Go.IntKind.i64 0, Go.Value.int Go.IntKind.i64 0, Go.Value.int Go.IntKind.i64 0, Go.Value.int Go.IntKind.i64 0, Go.Value.int Go.IntKind.i64 0, Go.Value.slice none 0 0]) 17 152 := ⟨by kernel_rfl⟩
instance ckb28 : TyB Try.prog 28 (Go.Value.int Go.IntKind.i64 0) 1 8 := ⟨by kernel_rfl⟩
instance ckb36 : TyB Try.prog 36 (Go.Value.agg #[Go.Value.int Go.IntKind.i64 0, Go.Value.int Go.IntKind.i64 0, Go.Value.int Go.IntKind.i64 0, Go.Value.int Go.IntKind.i64 0, Go.Value.int Go.IntKind.i64 0, Go.Value.int Go.IntKind.i64 0, Go.Value.int Go.IntKind.i64 0, Go.Value.int Go.IntKind.i64 0, Go.Value.int Go.IntKind.i64 0, Go.Value.int Go.IntKind.i64 0, Go.Value.int Go.IntKind.i64 0, Go.Value.int Go.IntKind.i64 0, Go.Value.int Go.IntKind.i64 0, Go.Value.int Go.IntKind.i64 0, Go.Value.int Go.IntKind.i64 0, Go.Value.int Go.IntKind.i64 0, Go.Value.slice none 0 0]) 17 152 := ⟨by kernel_rfl⟩
instance ckb41 : TyB Try.prog 41 (Go.Value.int Go.IntKind.u64 0) 1 8 := ⟨by kernel_rfl⟩
instance ckb90 : TyB Try.prog 90 (Go.Value.slice none 0 0) 1 24 := ⟨by kernel_rfl⟩
instance ckb111 : TyB Try.prog 111 (Go.Value.slice none 0 0) 1 24 := ⟨by kernel_rfl⟩
instance ckp24 : TyP Try.prog 24 [(0, 1), (1, 1)] := ⟨_, Try.underlying24, fun w => by simp [Try.sizeOf3]⟩
instance ckp27 : TyP Try.prog 27 [(0, 16), (16, 1)] := ⟨_, Try.underlying27, fun w => by simp [Try.sizeOf22, Try.sizeOf25]⟩
instance ckp36 : TyP Try.prog 36 [(0, 16), (16, 1)] := ⟨_, Try.underlying36, fun w => by simp [Try.sizeOf22, Try.sizeOf25]⟩
instance ckg27 : TyG Try.prog 27 := ⟨Try.eqGuardType27⟩
instance ckg36 : TyG Try.prog 36 := ⟨Try.eqGuardType36⟩
instance ckg25 : TyG Try.prog 25 := ⟨Try.eqGuardType25⟩
instance ckg24 : TyG Try.prog 24 := ⟨Try.eqGuardType24⟩
end Go.Proofs.Ytbpahaciegfpfaa
