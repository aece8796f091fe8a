/-
  CkTb: more of what the translation says of its types, as instances that are found by the numbers.
  Conditions: none.
-/
import Derived.Test.YtbpahaciegfpfaaCkMore
import Derived.Test.YtbpahaciegfpfaaRows
namespace Go.Proofs.Ytbpahaciegfpfaa
open Go Go.Ck

instance cku5 : TyU Try.prog 5 (Go.TypeDesc.int Go.IntKind.u8) := ⟨Try.underlying5⟩
instance cku9 : TyU Try.prog 9 (Go.TypeDesc.string) := ⟨Try.underlying9⟩
instance cku52 : TyU Try.prog 52 (Go.TypeDesc.slice 5) := ⟨Try.underlying52⟩
instance cku71 : TyU Try.prog 71 (Go.TypeDesc.pointer 95) := ⟨Try.underlying71⟩
instance cku75 : TyU Try.prog 75 (Go.TypeDesc.pointer 77) := ⟨Try.underlying75⟩
instance ckf77_0 : TyF Try.prog 77 0 0 9 1 := ⟨_, _, Try.underlying77, rfl, rfl, rfl, Try.sizeOf9⟩
instance ckf77_1 : TyF Try.prog 77 1 1 28 1 := ⟨_, _, Try.underlying77, rfl, rfl, rfl, Try.sizeOf28⟩
instance cku78 : TyU Try.prog 78 (Go.TypeDesc.pointer 80) := ⟨Try.underlying78⟩
instance ckf80_0 : TyF Try.prog 80 0 0 52 1 := ⟨_, _, Try.underlying80, rfl, rfl, rfl, Try.sizeOf52⟩
instance ckf80_1 : TyF Try.prog 80 1 1 4 1 := ⟨_, _, Try.underlying80, rfl, rfl, rfl, Try.sizeOf4⟩
instance ckf95_0 : TyF Try.prog 95 0 0 52 1 := ⟨_, _, Try.underlying95, rfl, rfl, rfl, Try.sizeOf52⟩
instance ckf95_1 : TyF Try.prog 95 1 1 28 1 := ⟨_, _, Try.underlying95, rfl, rfl, rfl, Try.sizeOf28⟩
instance cku110 : TyU Try.prog 110 (Go.TypeDesc.int Go.IntKind.u64) := ⟨Try.underlying110⟩
instance cka5 : TyA Try.prog 5 false := ⟨Try.isAgg5⟩
instance cka9 : TyA Try.prog 9 false := ⟨Try.isAgg9⟩
instance cka52 : TyA Try.prog 52 false := ⟨Try.isAgg52⟩
instance cka71 : TyA Try.prog 71 false := ⟨Try.isAgg71⟩
instance cka75 : TyA Try.prog 75 false := ⟨Try.isAgg75⟩
instance cka77 : TyA Try.prog 77 true := ⟨Try.isAgg77⟩
instance cka78 : TyA Try.prog 78 false := ⟨Try.isAgg78⟩
instance cka80 : TyA Try.prog 80 true := ⟨Try.isAgg80⟩
instance cka95 : TyA Try.prog 95 true := ⟨Try.isAgg95⟩
instance cka110 : TyA Try.prog 110 false := ⟨Try.isAgg110⟩
instance cks5 : TyS Try.prog 5 1 := ⟨Try.sizeOf5⟩
instance cks9 : TyS Try.prog 9 1 := ⟨Try.sizeOf9⟩
instance cks52 : TyS Try.prog 52 1 := ⟨Try.sizeOf52⟩
instance cks71 : TyS Try.prog 71 1 := ⟨Try.sizeOf71⟩
instance cks75 : TyS Try.prog 75 1 := ⟨Try.sizeOf75⟩
instance cks77 : TyS Try.prog 77 2 := ⟨Try.sizeOf77⟩
instance cks78 : TyS Try.prog 78 1 := ⟨Try.sizeOf78⟩
instance cks80 : TyS Try.prog 80 2 := ⟨Try.sizeOf80⟩
instance cks95 : TyS Try.prog 95 2 := ⟨Try.sizeOf95⟩
instance cks110 : TyS Try.prog 110 1 := ⟨Try.sizeOf110⟩
instance ckz5 : TyZ Try.prog 5 (Go.Value.int Go.IntKind.u8 0) := ⟨Try.zeroValue5⟩
instance ckz9 : TyZ Try.prog 9 (Go.Value.string { data := #[] }) := ⟨Try.zeroValue9⟩
instance ckz52 : TyZ Try.prog 52 (Go.Value.slice none 0 0) := ⟨Try.zeroValue52⟩
instance ckz71 : TyZ Try.prog 71 (Go.Value.pointer none) := ⟨Try.zeroValue71⟩
instance ckz75 : TyZ Try.prog 75 (Go.Value.pointer none) := ⟨Try.zeroValue75⟩
instance ckz77 : TyZ Try.prog 77 (Go.Value.agg #[Go.Value.string { data := #[] }, Go.Value.int Go.IntKind.i64 0]) := ⟨Try.zeroValue77⟩
instance ckz78 : TyZ Try.prog 78 (Go.Value.pointer none) := ⟨Try.zeroValue78⟩
instance ckz80 : TyZ Try.prog 80 (Go.Value.agg #[Go.Value.slice none 0 0, Go.Value.bool false]) := ⟨Try.zeroValue80⟩
instance ckz95 : TyZ Try.prog 95 (Go.Value.agg #[Go.Value.slice none 0 0, Go.Value.int Go.IntKind.i64 0]) := ⟨Try.zeroValue95⟩
instance ckz110 : TyZ Try.prog 110 (Go.Value.int Go.IntKind.u64 0) := ⟨Try.zeroValue110⟩
instance ckb5 : TyB Try.prog 5 (Go.Value.int Go.IntKind.u8 0) 1 1 := ⟨by kernel_rfl⟩
instance ckb9 : TyB Try.prog 9 (Go.Value.string { data := #[] }) 1 16 := ⟨by kernel_rfl⟩
instance ckb52 : TyB Try.prog 52 (Go.Value.slice none 0 0) 1 24 := ⟨by kernel_rfl⟩
instance ckb71 : TyB Try.prog 71 (Go.Value.pointer none) 1 8 := ⟨by kernel_rfl⟩
instance ckb75 : TyB Try.prog 75 (Go.Value.pointer none) 1 8 := ⟨by kernel_rfl⟩
instance ckb77 : TyB Try.prog 77 (Go.Value.agg #[Go.Value.string { data := #[] }, Go.Value.int Go.IntKind.i64 0]) 2 24 := ⟨by kernel_rfl⟩
instance ckb78 : TyB Try.prog 78 (Go.Value.pointer none) 1 8 := ⟨by kernel_rfl⟩
instance ckb80 : TyB Try.prog 80 (Go.Value.agg #[Go.Value.slice none 0 0, Go.Value.bool false]) 2 32 := ⟨by kernel_rfl⟩
instance ckb95 : TyB Try.prog 95 (Go.Value.agg #[Go.Value.slice none 0 0, Go.Value.int Go.IntKind.i64 0]) 2 32 := ⟨by kernel_rfl⟩
instance ckb110 : TyB Try.prog 110 (Go.Value.int Go.IntKind.u64 0) 1 8 := ⟨by kernel_rfl⟩
instance ckp77 : TyP Try.prog 77 [(0, 1), (1, 1)] := ⟨_, Try.underlying77, fun w => by simp [Try.sizeOf9, Try.sizeOf28]⟩
instance ckp80 : TyP Try.prog 80 [(0, 1), (1, 1)] := ⟨_, Try.underlying80, fun w => by simp [Try.sizeOf4, Try.sizeOf52]⟩
instance ckp95 : TyP Try.prog 95 [(0, 1), (1, 1)] := ⟨_, Try.underlying95, fun w => by simp [Try.sizeOf28, Try.sizeOf52]⟩
instance ckg80 : TyG Try.prog 80 := ⟨Try.eqGuardType80⟩
instance ckg95 : TyG Try.prog 95 := ⟨Try.eqGuardType95⟩
instance ckg77 : TyG Try.prog 77 := ⟨Try.eqGuardType77⟩
end Go.Proofs.Ytbpahaciegfpfaa
