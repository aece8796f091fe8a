/-
  Part 2 of a proof: CkTy CkTac BitA BitB.
  Conditions: each theorem states its own.
-/
import Derived.Test.YtndpclcbobgdlaaGreatDoorRows
import Derived.Test.YtndpclcbobgdlaaGreatDoorTwGPM1
set_option maxRecDepth 100000
set_option linter.unusedVariables false
set_option linter.unusedSimpArgs false
section
namespace Go.Proofs.YtndpclcbobgdlaaGreatDoor
open Go Go.Ck
instance cku3 : TyU Tryz.prog 3 (Go.TypeDesc.int Go.IntKind.i64) := ⟨Tryz.underlying3⟩
instance cku4 : TyU Tryz.prog 4 (Go.TypeDesc.bool) := ⟨Tryz.underlying4⟩
instance cku5 : TyU Tryz.prog 5 (Go.TypeDesc.int Go.IntKind.u8) := ⟨Tryz.underlying5⟩
instance cku9 : TyU Tryz.prog 9 (Go.TypeDesc.string) := ⟨Tryz.underlying9⟩
instance cku28 : TyU Tryz.prog 28 (Go.TypeDesc.slice 5) := ⟨Tryz.underlying28⟩
instance cku29 : TyU Tryz.prog 29 (Go.TypeDesc.int Go.IntKind.i64) := ⟨Tryz.underlying29⟩
instance cku51 : TyU Tryz.prog 51 (Go.TypeDesc.pointer 53) := ⟨Tryz.underlying51⟩
instance ckf53_0 : TyF Tryz.prog 53 0 0 28 1 := ⟨_, _, Tryz.underlying53, rfl, rfl, rfl, Tryz.sizeOf28⟩
instance ckf53_1 : TyF Tryz.prog 53 1 1 4 1 := ⟨_, _, Tryz.underlying53, rfl, rfl, rfl, Tryz.sizeOf4⟩
instance cku61 : TyU Tryz.prog 61 (Go.TypeDesc.array 32 5) := ⟨Tryz.underlying61⟩
instance cku64 : TyU Tryz.prog 64 (Go.TypeDesc.pointer 95) := ⟨Tryz.underlying64⟩
instance cku69 : TyU Tryz.prog 69 (Go.TypeDesc.pointer 71) := ⟨Tryz.underlying69⟩
instance ckf71_0 : TyF Tryz.prog 71 0 0 9 1 := ⟨_, _, Tryz.underlying71, rfl, rfl, rfl, Tryz.sizeOf9⟩
instance ckf71_1 : TyF Tryz.prog 71 1 1 29 1 := ⟨_, _, Tryz.underlying71, rfl, rfl, rfl, Tryz.sizeOf29⟩
instance cku73 : TyU Tryz.prog 73 (Go.TypeDesc.int Go.IntKind.u64) := ⟨Tryz.underlying73⟩
instance cku76 : TyU Tryz.prog 76 (Go.TypeDesc.slice 3) := ⟨Tryz.underlying76⟩
instance ckf95_0 : TyF Tryz.prog 95 0 0 28 1 := ⟨_, _, Tryz.underlying95, rfl, rfl, rfl, Tryz.sizeOf28⟩
instance ckf95_1 : TyF Tryz.prog 95 1 1 29 1 := ⟨_, _, Tryz.underlying95, rfl, rfl, rfl, Tryz.sizeOf29⟩
instance cku97 : TyU Tryz.prog 97 (Go.TypeDesc.pointer 3) := ⟨Tryz.underlying97⟩
instance cku115 : TyU Tryz.prog 115 (Go.TypeDesc.slice 243) := ⟨Tryz.underlying115⟩
instance ckf121_0 : TyF Tryz.prog 121 0 0 3 1 := ⟨_, _, Tryz.underlying121, rfl, rfl, rfl, Tryz.sizeOf3⟩
instance ckf121_1 : TyF Tryz.prog 121 1 1 3 1 := ⟨_, _, Tryz.underlying121, rfl, rfl, rfl, Tryz.sizeOf3⟩
instance cku122 : TyU Tryz.prog 122 (Go.TypeDesc.array 16 3) := ⟨Tryz.underlying122⟩
instance cku123 : TyU Tryz.prog 123 (Go.TypeDesc.slice 121) := ⟨Tryz.underlying123⟩
instance ckf125_0 : TyF Tryz.prog 125 0 0 122 16 := ⟨_, _, Tryz.underlying125, rfl, rfl, rfl, Tryz.sizeOf122⟩
instance ckf125_1 : TyF Tryz.prog 125 1 16 123 1 := ⟨_, _, Tryz.underlying125, rfl, rfl, rfl, Tryz.sizeOf123⟩
instance cku130 : TyU Tryz.prog 130 (Go.TypeDesc.slice 28) := ⟨Tryz.underlying130⟩
instance cku132 : TyU Tryz.prog 132 (Go.TypeDesc.int Go.IntKind.u64) := ⟨Tryz.underlying132⟩
instance cku133 : TyU Tryz.prog 133 (Go.TypeDesc.int Go.IntKind.u32) := ⟨Tryz.underlying133⟩
instance cku134 : TyU Tryz.prog 134 (Go.TypeDesc.array 8 133) := ⟨Tryz.underlying134⟩
instance cku186 : TyU Tryz.prog 186 (Go.TypeDesc.array 64 133) := ⟨Tryz.underlying186⟩
instance cku194 : TyU Tryz.prog 194 (Go.TypeDesc.array 64 5) := ⟨Tryz.underlying194⟩
instance cku225 : TyU Tryz.prog 225 (Go.TypeDesc.slice 373) := ⟨Tryz.underlying225⟩
instance ckf243_0 : TyF Tryz.prog 243 0 0 121 2 := ⟨_, _, Tryz.underlying243, rfl, rfl, rfl, Tryz.sizeOf121⟩
instance ckf243_1 : TyF Tryz.prog 243 1 2 125 17 := ⟨_, _, Tryz.underlying243, rfl, rfl, rfl, Tryz.sizeOf125⟩
instance ckf243_2 : TyF Tryz.prog 243 2 19 28 1 := ⟨_, _, Tryz.underlying243, rfl, rfl, rfl, Tryz.sizeOf28⟩
instance cku313 : TyU Tryz.prog 313 (Go.TypeDesc.slice 115) := ⟨Tryz.underlying313⟩
instance ckf373_0 : TyF Tryz.prog 373 0 0 3 1 := ⟨_, _, Tryz.underlying373, rfl, rfl, rfl, Tryz.sizeOf3⟩
instance ckf373_1 : TyF Tryz.prog 373 1 1 115 1 := ⟨_, _, Tryz.underlying373, rfl, rfl, rfl, Tryz.sizeOf115⟩
instance cku480 : TyU Tryz.prog 480 (Go.TypeDesc.array 12 5) := ⟨Tryz.underlying480⟩
instance cku541 : TyU Tryz.prog 541 (Go.TypeDesc.array 16 133) := ⟨Tryz.underlying541⟩
instance cka3 : TyA Tryz.prog 3 false := ⟨Tryz.isAgg3⟩
instance cka4 : TyA Tryz.prog 4 false := ⟨Tryz.isAgg4⟩
instance cka5 : TyA Tryz.prog 5 false := ⟨Tryz.isAgg5⟩
instance cka9 : TyA Tryz.prog 9 false := ⟨Tryz.isAgg9⟩
instance cka28 : TyA Tryz.prog 28 false := ⟨Tryz.isAgg28⟩
instance cka29 : TyA Tryz.prog 29 false := ⟨Tryz.isAgg29⟩
instance cka51 : TyA Tryz.prog 51 false := ⟨Tryz.isAgg51⟩
instance cka53 : TyA Tryz.prog 53 true := ⟨Tryz.isAgg53⟩
instance cka61 : TyA Tryz.prog 61 true := ⟨Tryz.isAgg61⟩
instance cka64 : TyA Tryz.prog 64 false := ⟨Tryz.isAgg64⟩
instance cka69 : TyA Tryz.prog 69 false := ⟨Tryz.isAgg69⟩
instance cka71 : TyA Tryz.prog 71 true := ⟨Tryz.isAgg71⟩
instance cka73 : TyA Tryz.prog 73 false := ⟨Tryz.isAgg73⟩
instance cka76 : TyA Tryz.prog 76 false := ⟨Tryz.isAgg76⟩
instance cka95 : TyA Tryz.prog 95 true := ⟨Tryz.isAgg95⟩
instance cka97 : TyA Tryz.prog 97 false := ⟨Tryz.isAgg97⟩
instance cka115 : TyA Tryz.prog 115 false := ⟨Tryz.isAgg115⟩
instance cka121 : TyA Tryz.prog 121 true := ⟨Tryz.isAgg121⟩
instance cka122 : TyA Tryz.prog 122 true := ⟨Tryz.isAgg122⟩
instance cka123 : TyA Tryz.prog 123 false := ⟨Tryz.isAgg123⟩
instance cka125 : TyA Tryz.prog 125 true := ⟨Tryz.isAgg125⟩
instance cka130 : TyA Tryz.prog 130 false := ⟨Tryz.isAgg130⟩
instance cka132 : TyA Tryz.prog 132 false := ⟨Tryz.isAgg132⟩
instance cka133 : TyA Tryz.prog 133 false := ⟨Tryz.isAgg133⟩
instance cka134 : TyA Tryz.prog 134 true := ⟨Tryz.isAgg134⟩
instance cka186 : TyA Tryz.prog 186 true := ⟨Tryz.isAgg186⟩
instance cka194 : TyA Tryz.prog 194 true := ⟨Tryz.isAgg194⟩
instance cka225 : TyA Tryz.prog 225 false := ⟨Tryz.isAgg225⟩
instance cka243 : TyA Tryz.prog 243 true := ⟨Tryz.isAgg243⟩
instance cka313 : TyA Tryz.prog 313 false := ⟨Tryz.isAgg313⟩
instance cka373 : TyA Tryz.prog 373 true := ⟨Tryz.isAgg373⟩
instance cka480 : TyA Tryz.prog 480 true := ⟨Tryz.isAgg480⟩
instance cka541 : TyA Tryz.prog 541 true := ⟨Tryz.isAgg541⟩
instance cks3 : TyS Tryz.prog 3 1 := ⟨Tryz.sizeOf3⟩
instance cks4 : TyS Tryz.prog 4 1 := ⟨Tryz.sizeOf4⟩
instance cks5 : TyS Tryz.prog 5 1 := ⟨Tryz.sizeOf5⟩
instance cks9 : TyS Tryz.prog 9 1 := ⟨Tryz.sizeOf9⟩
instance cks28 : TyS Tryz.prog 28 1 := ⟨Tryz.sizeOf28⟩
instance cks29 : TyS Tryz.prog 29 1 := ⟨Tryz.sizeOf29⟩
instance cks51 : TyS Tryz.prog 51 1 := ⟨Tryz.sizeOf51⟩
instance cks53 : TyS Tryz.prog 53 2 := ⟨Tryz.sizeOf53⟩
instance cks61 : TyS Tryz.prog 61 32 := ⟨Tryz.sizeOf61⟩
instance cks64 : TyS Tryz.prog 64 1 := ⟨Tryz.sizeOf64⟩
instance cks69 : TyS Tryz.prog 69 1 := ⟨Tryz.sizeOf69⟩
instance cks71 : TyS Tryz.prog 71 2 := ⟨Tryz.sizeOf71⟩
instance cks73 : TyS Tryz.prog 73 1 := ⟨Tryz.sizeOf73⟩
instance cks76 : TyS Tryz.prog 76 1 := ⟨Tryz.sizeOf76⟩
instance cks95 : TyS Tryz.prog 95 2 := ⟨Tryz.sizeOf95⟩
instance cks97 : TyS Tryz.prog 97 1 := ⟨Tryz.sizeOf97⟩
instance cks115 : TyS Tryz.prog 115 1 := ⟨Tryz.sizeOf115⟩
instance cks121 : TyS Tryz.prog 121 2 := ⟨Tryz.sizeOf121⟩
instance cks122 : TyS Tryz.prog 122 16 := ⟨Tryz.sizeOf122⟩
instance cks123 : TyS Tryz.prog 123 1 := ⟨Tryz.sizeOf123⟩
instance cks125 : TyS Tryz.prog 125 17 := ⟨Tryz.sizeOf125⟩
instance cks130 : TyS Tryz.prog 130 1 := ⟨Tryz.sizeOf130⟩
instance cks132 : TyS Tryz.prog 132 1 := ⟨Tryz.sizeOf132⟩
instance cks133 : TyS Tryz.prog 133 1 := ⟨Tryz.sizeOf133⟩
instance cks134 : TyS Tryz.prog 134 8 := ⟨Tryz.sizeOf134⟩
instance cks186 : TyS Tryz.prog 186 64 := ⟨Tryz.sizeOf186⟩
instance cks194 : TyS Tryz.prog 194 64 := ⟨Tryz.sizeOf194⟩
instance cks225 : TyS Tryz.prog 225 1 := ⟨Tryz.sizeOf225⟩
instance cks243 : TyS Tryz.prog 243 20 := ⟨Tryz.sizeOf243⟩
instance cks313 : TyS Tryz.prog 313 1 := ⟨Tryz.sizeOf313⟩
instance cks373 : TyS Tryz.prog 373 2 := ⟨Tryz.sizeOf373⟩
instance cks480 : TyS Tryz.prog 480 12 := ⟨Tryz.sizeOf480⟩
instance cks541 : TyS Tryz.prog 541 16 := ⟨Tryz.sizeOf541⟩
instance ckz3 : TyZ Tryz.prog 3 (Go.Value.int Go.IntKind.i64 0) := ⟨Tryz.zeroValue3⟩
instance ckz4 : TyZ Tryz.prog 4 (Go.Value.bool false) := ⟨Tryz.zeroValue4⟩
instance ckz5 : TyZ Tryz.prog 5 (Go.Value.int Go.IntKind.u8 0) := ⟨Tryz.zeroValue5⟩
instance ckz9 : TyZ Tryz.prog 9 (Go.Value.string { data := #[] }) := ⟨Tryz.zeroValue9⟩
instance ckz28 : TyZ Tryz.prog 28 (Go.Value.slice none 0 0) := ⟨Tryz.zeroValue28⟩
instance ckz29 : TyZ Tryz.prog 29 (Go.Value.int Go.IntKind.i64 0) := ⟨Tryz.zeroValue29⟩
instance ckz51 : TyZ Tryz.prog 51 (Go.Value.pointer none) := ⟨Tryz.zeroValue51⟩
instance ckz53 : TyZ Tryz.prog 53 (Go.Value.agg #[Go.Value.slice none 0 0, Go.Value.bool false]) := ⟨Tryz.zeroValue53⟩
instance ckz61 : TyZ Tryz.prog 61 (Go.Value.agg #[Go.Value.int Go.IntKind.u8 0, Go.Value.int Go.IntKind.u8 0, Go.Value.int Go.IntKind.u8 0, Go.Value.int Go.IntKind.u8 0, Go.Value.int Go.IntKind.u8 0, Go.Value.int Go.IntKind.u8 0, Go.Value.int Go.IntKind.u8 0, Go.Value.int Go.IntKind.u8 0, Go.Value.int Go.IntKind.u8 0, Go.Value.int Go.IntKind.u8 0, Go.Value.int Go.IntKind.u8 0, Go.Value.int Go.IntKind.u8 0, Go.Value.int Go.IntKind.u8 0, Go.Value.int Go.IntKind.u8 0, Go.Value.int Go.IntKind.u8 0, Go.Value.int Go.IntKind.u8 0, Go.Value.int Go.IntKind.u8 0, Go.Value.int Go.IntKind.u8 0, Go.Value.int Go.IntKind.u8 0, Go.Value.int Go.IntKind.u8 0, Go.Value.int Go.IntKind.u8 0, Go.Value.int Go.IntKind.u8 0, Go.Value.int Go.IntKind.u8 0, Go.Value.int Go.IntKind.u8 0, Go.Value.int Go.IntKind.u8 0, Go.Value.int Go.IntKind.u8 0, Go.Value.int Go.IntKind.u8 0, Go.Value.int Go.IntKind.u8 0, Go.Value.int Go.IntKind.u8 0, Go.Value.int Go.IntKind.u8 0, Go.Value.int Go.IntKind.u8 0, Go.Value.int Go.IntKind.u8 0]) := ⟨Tryz.zeroValue61⟩
instance ckz64 : TyZ Tryz.prog 64 (Go.Value.pointer none) := ⟨Tryz.zeroValue64⟩
instance ckz69 : TyZ Tryz.prog 69 (Go.Value.pointer none) := ⟨Tryz.zeroValue69⟩
instance ckz71 : TyZ Tryz.prog 71 (Go.Value.agg #[Go.Value.string { data := #[] }, Go.Value.int Go.IntKind.i64 0]) := ⟨Tryz.zeroValue71⟩
instance ckz73 : TyZ Tryz.prog 73 (Go.Value.int Go.IntKind.u64 0) := ⟨Tryz.zeroValue73⟩
instance ckz76 : TyZ Tryz.prog 76 (Go.Value.slice none 0 0) := ⟨Tryz.zeroValue76⟩
instance ckz95 : TyZ Tryz.prog 95 (Go.Value.agg #[Go.Value.slice none 0 0, Go.Value.int Go.IntKind.i64 0]) := ⟨Tryz.zeroValue95⟩
instance ckz97 : TyZ Tryz.prog 97 (Go.Value.pointer none) := ⟨Tryz.zeroValue97⟩
instance ckz115 : TyZ Tryz.prog 115 (Go.Value.slice none 0 0) := ⟨Tryz.zeroValue115⟩
instance ckz121 : TyZ Tryz.prog 121 (Go.Value.agg #[Go.Value.int Go.IntKind.i64 0, Go.Value.int Go.IntKind.i64 0]) := ⟨Tryz.zeroValue121⟩
instance ckz122 : TyZ Tryz.prog 122 (Go.Value.agg #[Go.Value.int Go.IntKind.i64 0, Go.Value.int Go.IntKind.i64 0, Go.Value.int Go.IntKind.i64 0, Go.Value.int Go.IntKind.i64 0, Go.Value.int Go.IntKind.i64 0, Go.Value.int Go.IntKind.i64 0, Go.Value.int Go.IntKind.i64 0, Go.Value.int Go.IntKind.i64 0, Go.Value.int Go.IntKind.i64 0, Go.Value.int Go.IntKind.i64 0, Go.Value.int Go.IntKind.i64 0, Go.Value.int Go.IntKind.i64 0, Go.Value.int Go.IntKind.i64 0, Go.Value.int Go.IntKind.i64 0, Go.Value.int Go.IntKind.i64 0, Go.Value.int Go.IntKind.i64 0]) := ⟨Tryz.zeroValue122⟩
instance ckz123 : TyZ Tryz.prog 123 (Go.Value.slice none 0 0) := ⟨Tryz.zeroValue123⟩
instance ckz125 : TyZ Tryz.prog 125 (Go.Value.agg #[Go.Value.int Go.IntKind.i64 0, Go.Value.int Go.IntKind.i64 0, Go.Value.int Go.IntKind.i64 0, Go.Value.int Go.IntKind.i64 0, Go.Value.int Go.IntKind.i64 0, Go.Value.int Go.IntKind.i64 0, Go.Value.int Go.IntKind.i64 0, Go.Value.int Go.IntKind.i64 0, Go.Value.int Go.IntKind.i64 0, Go.Value.int Go.IntKind.i64 0, Go.Value.int Go.IntKind.i64 0, Go.Value.int Go.IntKind.i64 0, Go.Value.int Go.IntKind.i64 0, Go.Value.int Go.IntKind.i64 0, Go.Value.int Go.IntKind.i64 0, Go.Value.int Go.IntKind.i64 0, Go.Value.slice none 0 0]) := ⟨Tryz.zeroValue125⟩
instance ckz130 : TyZ Tryz.prog 130 (Go.Value.slice none 0 0) := ⟨Tryz.zeroValue130⟩
instance ckz132 : TyZ Tryz.prog 132 (Go.Value.int Go.IntKind.u64 0) := ⟨Tryz.zeroValue132⟩
instance ckz133 : TyZ Tryz.prog 133 (Go.Value.int Go.IntKind.u32 0) := ⟨Tryz.zeroValue133⟩
instance ckz134 : TyZ Tryz.prog 134 (Go.Value.agg #[Go.Value.int Go.IntKind.u32 0, Go.Value.int Go.IntKind.u32 0, Go.Value.int Go.IntKind.u32 0, Go.Value.int Go.IntKind.u32 0, Go.Value.int Go.IntKind.u32 0, Go.Value.int Go.IntKind.u32 0, Go.Value.int Go.IntKind.u32 0, Go.Value.int Go.IntKind.u32 0]) := ⟨Tryz.zeroValue134⟩
instance ckz186 : TyZ Tryz.prog 186 (Go.Value.agg #[Go.Value.int Go.IntKind.u32 0, Go.Value.int Go.IntKind.u32 0, Go.Value.int Go.IntKind.u32 0, Go.Value.int Go.IntKind.u32 0, Go.Value.int Go.IntKind.u32 0, Go.Value.int Go.IntKind.u32 0, Go.Value.int Go.IntKind.u32 0, Go.Value.int Go.IntKind.u32 0, Go.Value.int Go.IntKind.u32 0, Go.Value.int Go.IntKind.u32 0, Go.Value.int Go.IntKind.u32 0, Go.Value.int Go.IntKind.u32 0, Go.Value.int Go.IntKind.u32 0, Go.Value.int Go.IntKind.u32 0, Go.Value.int Go.IntKind.u32 0, Go.Value.int Go.IntKind.u32 0, Go.Value.int Go.IntKind.u32 0, Go.Value.int Go.IntKind.u32 0, Go.Value.int Go.IntKind.u32 0, Go.Value.int Go.IntKind.u32 0, Go.Value.int Go.IntKind.u32 0, Go.Value.int Go.IntKind.u32 0, Go.Value.int Go.IntKind.u32 0, Go.Value.int Go.IntKind.u32 0, Go.Value.int Go.IntKind.u32 0, Go.Value.int Go.IntKind.u32 0, Go.Value.int Go.IntKind.u32 0, Go.Value.int Go.IntKind.u32 0, Go.Value.int Go.IntKind.u32 0, Go.Value.int Go.IntKind.u32 0, Go.Value.int Go.IntKind.u32 0, Go.Value.int Go.IntKind.u32 0, Go.Value.int Go.IntKind.u32 0, Go.Value.int Go.IntKind.u32 0, Go.Value.int Go.IntKind.u32 0, Go.Value.int Go.IntKind.u32 0, Go.Value.int Go.IntKind.u32 0, Go.Value.int Go.IntKind.u32 0, Go.Value.int Go.IntKind.u32 0, Go.Value.int Go.IntKind.u32 0, Go.Value.int Go.IntKind.u32 0, Go.Value.int Go.IntKind.u32 0, Go.Value.int Go.IntKind.u32 0, Go.Value.int Go.IntKind.u32 0, Go.Value.int Go.IntKind.u32 0, Go.Value.int Go.IntKind.u32 0, Go.Value.int Go.IntKind.u32 0, Go.Value.int Go.IntKind.u32 0, Go.Value.int Go.IntKind.u32 0, Go.Value.int Go.IntKind.u32 0, Go.Value.int Go.IntKind.u32 0, Go.Value.int Go.IntKind.u32 0, Go.Value.int Go.IntKind.u32 0, Go.Value.int Go.IntKind.u32 0, Go.Value.int Go.IntKind.u32 0, Go.Value.int Go.IntKind.u32 0, Go.Value.int Go.IntKind.u32 0, Go.Value.int Go.IntKind.u32 0, Go.Value.int Go.IntKind.u32 0, Go.Value.int Go.IntKind.u32 0, Go.Value.int Go.IntKind.u32 0, Go.Value.int Go.IntKind.u32 0, Go.Value.int Go.IntKind.u32 0, Go.Value.int Go.IntKind.u32 0]) := ⟨Tryz.zeroValue186⟩
instance ckz194 : TyZ Tryz.prog 194 (Go.Value.agg #[Go.Value.int Go.IntKind.u8 0, Go.Value.int Go.IntKind.u8 0, Go.Value.int Go.IntKind.u8 0, Go.Value.int Go.IntKind.u8 0, Go.Value.int Go.IntKind.u8 0, Go.Value.int Go.IntKind.u8 0, Go.Value.int Go.IntKind.u8 0, Go.Value.int Go.IntKind.u8 0, Go.Value.int Go.IntKind.u8 0, Go.Value.int Go.IntKind.u8 0, Go.Value.int Go.IntKind.u8 0, Go.Value.int Go.IntKind.u8 0, Go.Value.int Go.IntKind.u8 0, Go.Value.int Go.IntKind.u8 0, Go.Value.int Go.IntKind.u8 0, Go.Value.int Go.IntKind.u8 0, Go.Value.int Go.IntKind.u8 0, Go.Value.int Go.IntKind.u8 0, Go.Value.int Go.IntKind.u8 0, Go.Value.int Go.IntKind.u8 0, Go.Value.int Go.IntKind.u8 0, Go.Value.int Go.IntKind.u8 0, Go.Value.int Go.IntKind.u8 0, Go.Value.int Go.IntKind.u8 0, Go.Value.int Go.IntKind.u8 0, Go.Value.int Go.IntKind.u8 0, Go.Value.int Go.IntKind.u8 0, Go.Value.int Go.IntKind.u8 0, Go.Value.int Go.IntKind.u8 0, Go.Value.int Go.IntKind.u8 0, Go.Value.int Go.IntKind.u8 0, Go.Value.int Go.IntKind.u8 0, Go.Value.int Go.IntKind.u8 0, Go.Value.int Go.IntKind.u8 0, Go.Value.int Go.IntKind.u8 0, Go.Value.int Go.IntKind.u8 0, Go.Value.int Go.IntKind.u8 0, Go.Value.int Go.IntKind.u8 0, Go.Value.int Go.IntKind.u8 0, Go.Value.int Go.IntKind.u8 0, Go.Value.int Go.IntKind.u8 0, Go.Value.int Go.IntKind.u8 0, Go.Value.int Go.IntKind.u8 0, Go.Value.int Go.IntKind.u8 0, Go.Value.int Go.IntKind.u8 0, Go.Value.int Go.IntKind.u8 0, Go.Value.int Go.IntKind.u8 0, Go.Value.int Go.IntKind.u8 0, Go.Value.int Go.IntKind.u8 0, Go.Value.int Go.IntKind.u8 0, Go.Value.int Go.IntKind.u8 0, Go.Value.int Go.IntKind.u8 0, Go.Value.int Go.IntKind.u8 0, Go.Value.int Go.IntKind.u8 0, Go.Value.int Go.IntKind.u8 0, Go.Value.int Go.IntKind.u8 0, Go.Value.int Go.IntKind.u8 0, Go.Value.int Go.IntKind.u8 0, Go.Value.int Go.IntKind.u8 0, Go.Value.int Go.IntKind.u8 0, Go.Value.int Go.IntKind.u8 0, Go.Value.int Go.IntKind.u8 0, Go.Value.int Go.IntKind.u8 0, Go.Value.int Go.IntKind.u8 0]) := ⟨Tryz.zeroValue194⟩
instance ckz225 : TyZ Tryz.prog 225 (Go.Value.slice none 0 0) := ⟨Tryz.zeroValue225⟩
instance ckz243 : TyZ Tryz.prog 243 (Go.Value.agg #[Go.Value.int Go.IntKind.i64 0, Go.Value.int Go.IntKind.i64 0, Go.Value.int Go.IntKind.i64 0, Go.Value.int Go.IntKind.i64 0, Go.Value.int Go.IntKind.i64 0, Go.Value.int Go.IntKind.i64 0, Go.Value.int Go.IntKind.i64 0, Go.Value.int Go.IntKind.i64 0, Go.Value.int Go.IntKind.i64 0, Go.Value.int Go.IntKind.i64 0, Go.Value.int Go.IntKind.i64 0, Go.Value.int Go.IntKind.i64 0, Go.Value.int Go.IntKind.i64 0, Go.Value.int Go.IntKind.i64 0, Go.Value.int Go.IntKind.i64 0, Go.Value.int Go.IntKind.i64 0, Go.Value.int Go.IntKind.i64 0, Go.Value.int Go.IntKind.i64 0, Go.Value.slice none 0 0, Go.Value.slice none 0 0]) := ⟨Tryz.zeroValue243⟩
instance ckz313 : TyZ Tryz.prog 313 (Go.Value.slice none 0 0) := ⟨Tryz.zeroValue313⟩
instance ckz373 : TyZ Tryz.prog 373 (Go.Value.agg #[Go.Value.int Go.IntKind.i64 0, Go.Value.slice none 0 0]) := ⟨Tryz.zeroValue373⟩
instance ckz480 : TyZ Tryz.prog 480 (Go.Value.agg #[Go.Value.int Go.IntKind.u8 0, Go.Value.int Go.IntKind.u8 0, Go.Value.int Go.IntKind.u8 0, Go.Value.int Go.IntKind.u8 0, Go.Value.int Go.IntKind.u8 0, Go.Value.int Go.IntKind.u8 0, Go.Value.int Go.IntKind.u8 0, Go.Value.int Go.IntKind.u8 0, Go.Value.int Go.IntKind.u8 0, Go.Value.int Go.IntKind.u8 0, Go.Value.int Go.IntKind.u8 0, Go.Value.int Go.IntKind.u8 0]) := ⟨Tryz.zeroValue480⟩
instance ckz541 : TyZ Tryz.prog 541 (Go.Value.agg #[Go.Value.int Go.IntKind.u32 0, Go.Value.int Go.IntKind.u32 0, Go.Value.int Go.IntKind.u32 0, Go.Value.int Go.IntKind.u32 0, Go.Value.int Go.IntKind.u32 0, Go.Value.int Go.IntKind.u32 0, Go.Value.int Go.IntKind.u32 0, Go.Value.int Go.IntKind.u32 0, Go.Value.int Go.IntKind.u32 0, Go.Value.int Go.IntKind.u32 0, Go.Value.int Go.IntKind.u32 0, Go.Value.int Go.IntKind.u32 0, Go.Value.int Go.IntKind.u32 0, Go.Value.int Go.IntKind.u32 0, Go.Value.int Go.IntKind.u32 0, Go.Value.int Go.IntKind.u32 0]) := ⟨Tryz.zeroValue541⟩
instance ckb3 : TyB Tryz.prog 3 (Go.Value.int Go.IntKind.i64 0) 1 8 := ⟨by kernel_rfl⟩
instance ckb4 : TyB Tryz.prog 4 (Go.Value.bool false) 1 1 := ⟨by kernel_rfl⟩
instance ckb5 : TyB Tryz.prog 5 (Go.Value.int Go.IntKind.u8 0) 1 1 := ⟨by kernel_rfl⟩
instance ckb9 : TyB Tryz.prog 9 (Go.Value.string { data := #[] }) 1 16 := ⟨by kernel_rfl⟩
instance ckb28 : TyB Tryz.prog 28 (Go.Value.slice none 0 0) 1 24 := ⟨by kernel_rfl⟩
instance ckb29 : TyB Tryz.prog 29 (Go.Value.int Go.IntKind.i64 0) 1 8 := ⟨by kernel_rfl⟩
instance ckb51 : TyB Tryz.prog 51 (Go.Value.pointer none) 1 8 := ⟨by kernel_rfl⟩
instance ckb53 : TyB Tryz.prog 53 (Go.Value.agg #[Go.Value.slice none 0 0, Go.Value.bool false]) 2 32 := ⟨by kernel_rfl⟩
instance ckb61 : TyB Tryz.prog 61 (Go.Value.agg #[Go.Value.int Go.IntKind.u8 0, Go.Value.int Go.IntKind.u8 0, Go.Value.int Go.IntKind.u8 0, Go.Value.int Go.IntKind.u8 0, Go.Value.int Go.IntKind.u8 0, Go.Value.int Go.IntKind.u8 0, Go.Value.int Go.IntKind.u8 0, Go.Value.int Go.IntKind.u8 0, Go.Value.int Go.IntKind.u8 0, Go.Value.int Go.IntKind.u8 0, Go.Value.int Go.IntKind.u8 0, Go.Value.int Go.IntKind.u8 0, Go.Value.int Go.IntKind.u8 0, Go.Value.int Go.IntKind.u8 0, Go.Value.int Go.IntKind.u8 0, Go.Value.int Go.IntKind.u8 0, Go.Value.int Go.IntKind.u8 0, Go.Value.int Go.IntKind.u8 0, Go.Value.int Go.IntKind.u8 0, Go.Value.int Go.IntKind.u8 0, Go.Value.int Go.IntKind.u8 0, Go.Value.int Go.IntKind.u8 0, Go.Value.int Go.IntKind.u8 0, Go.Value.int Go.IntKind.u8 0, Go.Value.int Go.IntKind.u8 0, Go.Value.int Go.IntKind.u8 0, Go.Value.int Go.IntKind.u8 0, Go.Value.int Go.IntKind.u8 0, Go.Value.int Go.IntKind.u8 0, Go.Value.int Go.IntKind.u8 0, Go.Value.int Go.IntKind.u8 0, Go.Value.int Go.IntKind.u8 0]) 32 32 := ⟨by kernel_rfl⟩
instance ckb64 : TyB Tryz.prog 64 (Go.Value.pointer none) 1 8 := ⟨by kernel_rfl⟩
instance ckb69 : TyB Tryz.prog 69 (Go.Value.pointer none) 1 8 := ⟨by kernel_rfl⟩
instance ckb71 : TyB Tryz.prog 71 (Go.Value.agg #[Go.Value.string { data := #[] }, Go.Value.int Go.IntKind.i64 0]) 2 24 := ⟨by kernel_rfl⟩
instance ckb73 : TyB Tryz.prog 73 (Go.Value.int Go.IntKind.u64 0) 1 8 := ⟨by kernel_rfl⟩
instance ckb76 : TyB Tryz.prog 76 (Go.Value.slice none 0 0) 1 24 := ⟨by kernel_rfl⟩
instance ckb95 : TyB Tryz.prog 95 (Go.Value.agg #[Go.Value.slice none 0 0, Go.Value.int Go.IntKind.i64 0]) 2 32 := ⟨by kernel_rfl⟩
instance ckb97 : TyB Tryz.prog 97 (Go.Value.pointer none) 1 8 := ⟨by kernel_rfl⟩
instance ckb115 : TyB Tryz.prog 115 (Go.Value.slice none 0 0) 1 24 := ⟨by kernel_rfl⟩
instance ckb121 : TyB Tryz.prog 121 (Go.Value.agg #[Go.Value.int Go.IntKind.i64 0, Go.Value.int Go.IntKind.i64 0]) 2 16 := ⟨by kernel_rfl⟩
instance ckb122 : TyB Tryz.prog 122 (Go.Value.agg #[Go.Value.int Go.IntKind.i64 0, Go.Value.int Go.IntKind.i64 0, Go.Value.int Go.IntKind.i64 0, Go.Value.int Go.IntKind.i64 0, Go.Value.int Go.IntKind.i64 0, Go.Value.int Go.IntKind.i64 0, Go.Value.int Go.IntKind.i64 0, Go.Value.int Go.IntKind.i64 0, Go.Value.int Go.IntKind.i64 0, Go.Value.int Go.IntKind.i64 0, Go.Value.int Go.IntKind.i64 0, Go.Value.int Go.IntKind.i64 0, Go.Value.int Go.IntKind.i64 0, Go.Value.int Go.IntKind.i64 0, Go.Value.int Go.IntKind.i64 0, Go.Value.int Go.IntKind.i64 0]) 16 128 := ⟨by kernel_rfl⟩
instance ckb123 : TyB Tryz.prog 123 (Go.Value.slice none 0 0) 1 24 := ⟨by kernel_rfl⟩
instance ckb125 : TyB Tryz.prog 125 (Go.Value.agg #[Go.Value.int Go.IntKind.i64 0, Go.Value.int Go.IntKind.i64 0, Go.Value.int Go.IntKind.i64 0, Go.Value.int Go.IntKind.i64 0, Go.Value.int Go.IntKind.i64 0, Go.Value.int Go.IntKind.i64 0, Go.Value.int Go.IntKind.i64 0, Go.Value.int Go.IntKind.i64 0, Go.Value.int Go.IntKind.i64 0, Go.Value.int Go.IntKind.i64 0, Go.Value.int Go.IntKind.i64 0, Go.Value.int Go.IntKind.i64 0, Go.Value.int Go.IntKind.i64 0, Go.Value.int Go.IntKind.i64 0, Go.Value.int Go.IntKind.i64 0, Go.Value.int Go.IntKind.i64 0, Go.Value.slice none 0 0]) 17 152 := ⟨by kernel_rfl⟩
instance ckb130 : TyB Tryz.prog 130 (Go.Value.slice none 0 0) 1 24 := ⟨by kernel_rfl⟩
instance ckb132 : TyB Tryz.prog 132 (Go.Value.int Go.IntKind.u64 0) 1 8 := ⟨by kernel_rfl⟩
instance ckb133 : TyB Tryz.prog 133 (Go.Value.int Go.IntKind.u32 0) 1 4 := ⟨by kernel_rfl⟩
instance ckb134 : TyB Tryz.prog 134 (Go.Value.agg #[Go.Value.int Go.IntKind.u32 0, Go.Value.int Go.IntKind.u32 0, Go.Value.int Go.IntKind.u32 0, Go.Value.int Go.IntKind.u32 0, Go.Value.int Go.IntKind.u32 0, Go.Value.int Go.IntKind.u32 0, Go.Value.int Go.IntKind.u32 0, Go.Value.int Go.IntKind.u32 0]) 8 32 := ⟨by kernel_rfl⟩
instance ckb186 : TyB Tryz.prog 186 (Go.Value.agg #[Go.Value.int Go.IntKind.u32 0, Go.Value.int Go.IntKind.u32 0, Go.Value.int Go.IntKind.u32 0, Go.Value.int Go.IntKind.u32 0, Go.Value.int Go.IntKind.u32 0, Go.Value.int Go.IntKind.u32 0, Go.Value.int Go.IntKind.u32 0, Go.Value.int Go.IntKind.u32 0, Go.Value.int Go.IntKind.u32 0, Go.Value.int Go.IntKind.u32 0, Go.Value.int Go.IntKind.u32 0, Go.Value.int Go.IntKind.u32 0, Go.Value.int Go.IntKind.u32 0, Go.Value.int Go.IntKind.u32 0, Go.Value.int Go.IntKind.u32 0, Go.Value.int Go.IntKind.u32 0, Go.Value.int Go.IntKind.u32 0, Go.Value.int Go.IntKind.u32 0, Go.Value.int Go.IntKind.u32 0, Go.Value.int Go.IntKind.u32 0, Go.Value.int Go.IntKind.u32 0, Go.Value.int Go.IntKind.u32 0, Go.Value.int Go.IntKind.u32 0, Go.Value.int Go.IntKind.u32 0, Go.Value.int Go.IntKind.u32 0, Go.Value.int Go.IntKind.u32 0, Go.Value.int Go.IntKind.u32 0, Go.Value.int Go.IntKind.u32 0, Go.Value.int Go.IntKind.u32 0, Go.Value.int Go.IntKind.u32 0, Go.Value.int Go.IntKind.u32 0, Go.Value.int Go.IntKind.u32 0, Go.Value.int Go.IntKind.u32 0, Go.Value.int Go.IntKind.u32 0, Go.Value.int Go.IntKind.u32 0, Go.Value.int Go.IntKind.u32 0, Go.Value.int Go.IntKind.u32 0, Go.Value.int Go.IntKind.u32 0, Go.Value.int Go.IntKind.u32 0, Go.Value.int Go.IntKind.u32 0, Go.Value.int Go.IntKind.u32 0, Go.Value.int Go.IntKind.u32 0, Go.Value.int Go.IntKind.u32 0, Go.Value.int Go.IntKind.u32 0, Go.Value.int Go.IntKind.u32 0, Go.Value.int Go.IntKind.u32 0, Go.Value.int Go.IntKind.u32 0, Go.Value.int Go.IntKind.u32 0, Go.Value.int Go.IntKind.u32 0, Go.Value.int Go.IntKind.u32 0, Go.Value.int Go.IntKind.u32 0, Go.Value.int Go.IntKind.u32 0, Go.Value.int Go.IntKind.u32 0, Go.Value.int Go.IntKind.u32 0, Go.Value.int Go.IntKind.u32 0, Go.Value.int Go.IntKind.u32 0, Go.Value.int Go.IntKind.u32 0, Go.Value.int Go.IntKind.u32 0, Go.Value.int Go.IntKind.u32 0, Go.Value.int Go.IntKind.u32 0, Go.Value.int Go.IntKind.u32 0, Go.Value.int Go.IntKind.u32 0, Go.Value.int Go.IntKind.u32 0, Go.Value.int Go.IntKind.u32 0]) 64 256 := ⟨by kernel_rfl⟩
instance ckb194 : TyB Tryz.prog 194 (Go.Value.agg #[Go.Value.int Go.IntKind.u8 0, Go.Value.int Go.IntKind.u8 0, Go.Value.int Go.IntKind.u8 0, Go.Value.int Go.IntKind.u8 0, Go.Value.int Go.IntKind.u8 0, Go.Value.int Go.IntKind.u8 0, Go.Value.int Go.IntKind.u8 0, Go.Value.int Go.IntKind.u8 0, Go.Value.int Go.IntKind.u8 0, Go.Value.int Go.IntKind.u8 0, Go.Value.int Go.IntKind.u8 0, Go.Value.int Go.IntKind.u8 0, Go.Value.int Go.IntKind.u8 0, Go.Value.int Go.IntKind.u8 0, Go.Value.int Go.IntKind.u8 0, Go.Value.int Go.IntKind.u8 0, Go.Value.int Go.IntKind.u8 0, Go.Value.int Go.IntKind.u8 0, Go.Value.int Go.IntKind.u8 0, Go.Value.int Go.IntKind.u8 0, Go.Value.int Go.IntKind.u8 0, Go.Value.int Go.IntKind.u8 0, Go.Value.int Go.IntKind.u8 0, Go.Value.int Go.IntKind.u8 0, Go.Value.int Go.IntKind.u8 0, Go.Value.int Go.IntKind.u8 0, Go.Value.int Go.IntKind.u8 0, Go.Value.int Go.IntKind.u8 0, Go.Value.int Go.IntKind.u8 0, Go.Value.int Go.IntKind.u8 0, Go.Value.int Go.IntKind.u8 0, Go.Value.int Go.IntKind.u8 0, Go.Value.int Go.IntKind.u8 0, Go.Value.int Go.IntKind.u8 0, Go.Value.int Go.IntKind.u8 0, Go.Value.int Go.IntKind.u8 0, Go.Value.int Go.IntKind.u8 0, Go.Value.int Go.IntKind.u8 0, Go.Value.int Go.IntKind.u8 0, Go.Value.int Go.IntKind.u8 0, Go.Value.int Go.IntKind.u8 0, Go.Value.int Go.IntKind.u8 0, Go.Value.int Go.IntKind.u8 0, Go.Value.int Go.IntKind.u8 0, Go.Value.int Go.IntKind.u8 0, Go.Value.int Go.IntKind.u8 0, Go.Value.int Go.IntKind.u8 0, Go.Value.int Go.IntKind.u8 0, Go.Value.int Go.IntKind.u8 0, Go.Value.int Go.IntKind.u8 0, Go.Value.int Go.IntKind.u8 0, Go.Value.int Go.IntKind.u8 0, Go.Value.int Go.IntKind.u8 0, Go.Value.int Go.IntKind.u8 0, Go.Value.int Go.IntKind.u8 0, Go.Value.int Go.IntKind.u8 0, Go.Value.int Go.IntKind.u8 0, Go.Value.int Go.IntKind.u8 0, Go.Value.int Go.IntKind.u8 0, Go.Value.int Go.IntKind.u8 0, Go.Value.int Go.IntKind.u8 0, Go.Value.int Go.IntKind.u8 0, Go.Value.int Go.IntKind.u8 0, Go.Value.int Go.IntKind.u8 0]) 64 64 := ⟨by kernel_rfl⟩
instance ckb225 : TyB Tryz.prog 225 (Go.Value.slice none 0 0) 1 24 := ⟨by kernel_rfl⟩
instance ckb243 : TyB Tryz.prog 243 (Go.Value.agg #[Go.Value.int Go.IntKind.i64 0, Go.Value.int Go.IntKind.i64 0, Go.Value.int Go.IntKind.i64 0, Go.Value.int Go.IntKind.i64 0, Go.Value.int Go.IntKind.i64 0, Go.Value.int Go.IntKind.i64 0, Go.Value.int Go.IntKind.i64 0, Go.Value.int Go.IntKind.i64 0, Go.Value.int Go.IntKind.i64 0, Go.Value.int Go.IntKind.i64 0, Go.Value.int Go.IntKind.i64 0, Go.Value.int Go.IntKind.i64 0, Go.Value.int Go.IntKind.i64 0, Go.Value.int Go.IntKind.i64 0, Go.Value.int Go.IntKind.i64 0, Go.Value.int Go.IntKind.i64 0, Go.Value.int Go.IntKind.i64 0, Go.Value.int Go.IntKind.i64 0, Go.Value.slice none 0 0, Go.Value.slice none 0 0]) 20 192 := ⟨by kernel_rfl⟩
instance ckb313 : TyB Tryz.prog 313 (Go.Value.slice none 0 0) 1 24 := ⟨by kernel_rfl⟩
instance ckb373 : TyB Tryz.prog 373 (Go.Value.agg #[Go.Value.int Go.IntKind.i64 0, Go.Value.slice none 0 0]) 2 32 := ⟨by kernel_rfl⟩
instance ckb480 : TyB Tryz.prog 480 (Go.Value.agg #[Go.Value.int Go.IntKind.u8 0, Go.Value.int Go.IntKind.u8 0, Go.Value.int Go.IntKind.u8 0, Go.Value.int Go.IntKind.u8 0, Go.Value.int Go.IntKind.u8 0, Go.Value.int Go.IntKind.u8 0, Go.Value.int Go.IntKind.u8 0, Go.Value.int Go.IntKind.u8 0, Go.Value.int Go.IntKind.u8 0, Go.Value.int Go.IntKind.u8 0, Go.Value.int Go.IntKind.u8 0, Go.Value.int Go.IntKind.u8 0]) 12 12 := ⟨by kernel_rfl⟩
instance ckb541 : TyB Tryz.prog 541 (Go.Value.agg #[Go.Value.int Go.IntKind.u32 0, Go.Value.int Go.IntKind.u32 0, Go.Value.int Go.IntKind.u32 0, Go.Value.int Go.IntKind.u32 0, Go.Value.int Go.IntKind.u32 0, Go.Value.int Go.IntKind.u32 0, Go.Value.int Go.IntKind.u32 0, Go.Value.int Go.IntKind.u32 0, Go.Value.int Go.IntKind.u32 0, Go.Value.int Go.IntKind.u32 0, Go.Value.int Go.IntKind.u32 0, Go.Value.int Go.IntKind.u32 0, Go.Value.int Go.IntKind.u32 0, Go.Value.int Go.IntKind.u32 0, Go.Value.int Go.IntKind.u32 0, Go.Value.int Go.IntKind.u32 0]) 16 64 := ⟨by kernel_rfl⟩
instance ckp53 : TyP Tryz.prog 53 [(0, 1), (1, 1)] := ⟨_, Tryz.underlying53, fun w => by simp [Tryz.sizeOf4, Tryz.sizeOf28]⟩
instance ckp71 : TyP Tryz.prog 71 [(0, 1), (1, 1)] := ⟨_, Tryz.underlying71, fun w => by simp [Tryz.sizeOf9, Tryz.sizeOf29]⟩
instance ckp95 : TyP Tryz.prog 95 [(0, 1), (1, 1)] := ⟨_, Tryz.underlying95, fun w => by simp [Tryz.sizeOf28, Tryz.sizeOf29]⟩
instance ckp121 : TyP Tryz.prog 121 [(0, 1), (1, 1)] := ⟨_, Tryz.underlying121, fun w => by simp [Tryz.sizeOf3]⟩
instance ckp125 : TyP Tryz.prog 125 [(0, 16), (16, 1)] := ⟨_, Tryz.underlying125, fun w => by simp [Tryz.sizeOf122, Tryz.sizeOf123]⟩
instance ckp243 : TyP Tryz.prog 243 [(0, 2), (2, 17), (19, 1)] := ⟨_, Tryz.underlying243, fun w => by simp [Tryz.sizeOf28, Tryz.sizeOf121, Tryz.sizeOf125]⟩
instance ckp373 : TyP Tryz.prog 373 [(0, 1), (1, 1)] := ⟨_, Tryz.underlying373, fun w => by simp [Tryz.sizeOf3, Tryz.sizeOf115]⟩
instance ckg53 : TyG Tryz.prog 53 := ⟨Tryz.eqGuardType53⟩
instance ckg134 : TyG Tryz.prog 134 := ⟨Tryz.eqGuardType134⟩
instance ckg480 : TyG Tryz.prog 480 := ⟨Tryz.eqGuardType480⟩
instance ckg95 : TyG Tryz.prog 95 := ⟨Tryz.eqGuardType95⟩
instance ckg243 : TyG Tryz.prog 243 := ⟨Tryz.eqGuardType243⟩
instance ckg122 : TyG Tryz.prog 122 := ⟨Tryz.eqGuardType122⟩
instance ckg71 : TyG Tryz.prog 71 := ⟨Tryz.eqGuardType71⟩
instance ckg61 : TyG Tryz.prog 61 := ⟨Tryz.eqGuardType61⟩
instance ckg541 : TyG Tryz.prog 541 := ⟨Tryz.eqGuardType541⟩
instance ckg186 : TyG Tryz.prog 186 := ⟨Tryz.eqGuardType186⟩
instance ckg125 : TyG Tryz.prog 125 := ⟨Tryz.eqGuardType125⟩
instance ckg121 : TyG Tryz.prog 121 := ⟨Tryz.eqGuardType121⟩
instance ckg194 : TyG Tryz.prog 194 := ⟨Tryz.eqGuardType194⟩
instance ckg373 : TyG Tryz.prog 373 := ⟨Tryz.eqGuardType373⟩
end Go.Proofs.YtndpclcbobgdlaaGreatDoor
end

section
namespace Go.Ck
open Go
theorem tq_ {p : Prop} (h : p := by (first|(apply yaa;rfl)|(apply yab;rfl)|(apply yac<;>rfl)|(apply yae;(·rfl);(·(first|exact yay 0 rfl rfl|exact yay 1 rfl rfl|exact yay 2 rfl rfl|exact yay 3 rfl rfl|exact yay 4 rfl rfl|exact yay 5 rfl rfl)))|(apply yad;(·rfl);(·first|exact yaz 0 rfl|exact yaz 1 rfl|exact yaz 2 rfl|exact yaz 3 rfl|exact yaz 4 rfl|exact yaz 5 rfl);(·rfl))|(apply yaf<;>rfl)|(apply yag<;>rfl)|(apply yah<;>rfl)|(apply yai<;>rfl)|(apply yaj<;>rfl)|(apply yak<;>rfl)|(apply yal<;>rfl)|(apply yam<;>rfl)|(apply yan;(·rfl);(·rfl);(·(unfold I64;omega)))|(apply yao;(·rfl);(·rfl);(·(unfold I64;omega)))|(apply yap;rfl)|(apply yaq;rfl)|(apply yar;rfl)|(apply yas<;>rfl)|(apply yat;rfl)|(apply yau<;>rfl)|(apply yav;(·rfl);(·rfl);(·omega);(·omega))|(apply yaw;(·rfl);(·rfl);(·omega);(·omega))|(apply yax<;>rfl))) : p := h
theorem tk_ {p : Prop} (h : p := by (first|(apply qv_lss_t;(·rfl);(·rfl);(·omega)) | (apply qv_lss_f;(·rfl);(·rfl);(·omega)) | (apply qv_leq_t;(·rfl);(·rfl);(·omega)) | (apply qv_leq_f;(·rfl);(·rfl);(·omega)) | (apply qv_gtr_t;(·rfl);(·rfl);(·omega)) | (apply qv_gtr_f;(·rfl);(·rfl);(·omega)) | (apply qv_geq_t;(·rfl);(·rfl);(·omega)) | (apply qv_geq_f;(·rfl);(·rfl);(·omega)) | (apply qv_eql_t;(·rfl);(·rfl);(·omega)) | (apply qv_eql_f;(·rfl);(·rfl);(·omega)) | (apply qv_neq_t;(·rfl);(·rfl);(·omega)) | (apply qv_neq_f;(·rfl);(·rfl);(·omega)))) : p := h
theorem th_ {p : Prop} (h : p := by (first|exact fun _ s => s | exact fun _ s => s.tl | exact fun _ s => s.tl.tl | exact fun _ s => s.tl.tl.tl | exact fun _ s => s.tl.tl.tl.tl)) : p := h
theorem to_ {p : Prop} (h : p := by (first|exact ybf | (refine .inl ?_;exact th_) | (refine .inr ?_;kernel_rfl))) : p := h
theorem ts_ {p : Prop} (h : p := by repeat' (first|exact Sub.nil | refine Sub.cons rfl rfl ?_)) : p := h
structure Bx (p : Prop) : Prop where
  o : p
theorem ta_ {G : Prop} {H : Nat → Prop} (k : ∀ b, H b) (h : Bx (∀ b, H b) → G := by (intro hk;(first|exact yba (ybb rfl) rfl rfl rfl ybf (fun _ => ybf) hk.1 | exact yba ybc rfl rfl rfl ybf (fun _ => ybf) hk.1 | exact yba (ybd rfl rfl rfl (ybe rfl rfl)) rfl rfl rfl ybf (fun _ => ybf) hk.1 | exact yba (ybd rfl rfl rfl rfl) rfl rfl rfl ybf (fun _ => ybf) hk.1))) : G := h ⟨k⟩
theorem tb_ {G A : Prop} {B H : Nat → Prop} (a : A) (b : ∀ b, B b) (k : ∀ b, H b) (h : Bx A → Bx (∀ b, B b) → Bx (∀ b, H b) → G := by (intro ha hb hk;(first|exact yba (ybb rfl) rfl rfl rfl ha.1 hb.1 hk.1 | exact yba ybc rfl rfl rfl ha.1 hb.1 hk.1 | exact yba (ybd rfl rfl rfl (ybe rfl rfl)) rfl rfl rfl ha.1 hb.1 hk.1 | exact yba (ybd rfl rfl rfl rfl) rfl rfl rfl ha.1 hb.1 hk.1))) : G := h ⟨a⟩ ⟨b⟩ ⟨k⟩
theorem tqs_ {G A B H : Prop} (a : A) (b : B) (k : H) (h : Bx A → Bx B → Bx H → G := by (intro ha hb hk;((first|refine ybg 0 rfl rfl rfl ?_ ?_ ?_ (by first|(refine ybh ?_;rfl)|rfl) rfl rfl ha.1 hb.1 ?_|refine ybg 1 rfl rfl rfl ?_ ?_ ?_ (by first|(refine ybh ?_;rfl)|rfl) rfl rfl ha.1 hb.1 ?_|refine ybg 2 rfl rfl rfl ?_ ?_ ?_ (by first|(refine ybh ?_;rfl)|rfl) rfl rfl ha.1 hb.1 ?_|refine ybg 3 rfl rfl rfl ?_ ?_ ?_ (by first|(refine ybh ?_;rfl)|rfl) rfl rfl ha.1 hb.1 ?_|refine ybg 4 rfl rfl rfl ?_ ?_ ?_ (by first|(refine ybh ?_;rfl)|rfl) rfl rfl ha.1 hb.1 ?_|refine ybg 5 rfl rfl rfl ?_ ?_ ?_ (by first|(refine ybh ?_;rfl)|rfl) rfl rfl ha.1 hb.1 ?_);(·rfl);(·exact nble rfl);(·rfl));exact hk.1)) : G := h ⟨a⟩ ⟨b⟩ ⟨k⟩
theorem t1_ {G H : Prop} (k : H) (h : Bx H → G := by (intro hk;(first|(refine ycf ?_;(first|(apply ybk;(·exact tq_);(·rfl);(·rfl))|refine ybl rfl rfl ?_|((first|refine ybg 0 rfl rfl rfl ?_ ?_ ?_ (by first|(refine ybh ?_;rfl)|rfl) rfl rfl ybf ybf ?_|refine ybg 1 rfl rfl rfl ?_ ?_ ?_ (by first|(refine ybh ?_;rfl)|rfl) rfl rfl ybf ybf ?_|refine ybg 2 rfl rfl rfl ?_ ?_ ?_ (by first|(refine ybh ?_;rfl)|rfl) rfl rfl ybf ybf ?_|refine ybg 3 rfl rfl rfl ?_ ?_ ?_ (by first|(refine ybh ?_;rfl)|rfl) rfl rfl ybf ybf ?_|refine ybg 4 rfl rfl rfl ?_ ?_ ?_ (by first|(refine ybh ?_;rfl)|rfl) rfl rfl ybf ybf ?_|refine ybg 5 rfl rfl rfl ?_ ?_ ?_ (by first|(refine ybh ?_;rfl)|rfl) rfl rfl ybf ybf ?_);(·rfl);(·exact nble rfl);(·rfl))|refine ycg ?_))|(refine ych ?_;(first|refine ybo ?_|refine ybp ?_|refine ybq ?_|refine ybr ?_|refine ybs ?_|refine ybt ?_|refine ybu rfl ?_|refine ybv rfl ?_))|(refine yci ?_;(first|refine yby ?_|refine ybz ?_|refine yca ?_|refine ycb ?_|refine ycc ?_|refine ycd ?_|refine yce rfl ?_)));exact hk.1)) : G := h ⟨k⟩
theorem tw_ {G H : Prop} (k : H) (h : Bx H → G := by (intro hk;(first|(refine ycf ?_;(first|(apply ybk;(·exact tq_);(·rfl);(·rfl))|refine ybl rfl rfl ?_|((first|refine ybg 0 rfl rfl rfl ?_ ?_ ?_ (by first|(refine ybh ?_;rfl)|rfl) rfl rfl ybf ybf ?_|refine ybg 1 rfl rfl rfl ?_ ?_ ?_ (by first|(refine ybh ?_;rfl)|rfl) rfl rfl ybf ybf ?_|refine ybg 2 rfl rfl rfl ?_ ?_ ?_ (by first|(refine ybh ?_;rfl)|rfl) rfl rfl ybf ybf ?_|refine ybg 3 rfl rfl rfl ?_ ?_ ?_ (by first|(refine ybh ?_;rfl)|rfl) rfl rfl ybf ybf ?_|refine ybg 4 rfl rfl rfl ?_ ?_ ?_ (by first|(refine ybh ?_;rfl)|rfl) rfl rfl ybf ybf ?_|refine ybg 5 rfl rfl rfl ?_ ?_ ?_ (by first|(refine ybh ?_;rfl)|rfl) rfl rfl ybf ybf ?_);(·rfl);(·exact nble rfl);(·rfl))|refine ycg ?_))|(refine ych ?_;(first|refine ybo ?_|refine ybp ?_|refine ybq ?_|refine ybr ?_|refine ybs ?_|refine ybt ?_|refine ybu rfl ?_|refine ybv rfl ?_))|(refine yci ?_;(first|refine yby ?_|refine ybz ?_|refine yca ?_|refine ycb ?_|refine ycc ?_|refine ycd ?_|refine yce rfl ?_)));(repeat (first|(refine ycf ?_;(first|(apply ybk;(·exact tq_);(·rfl);(·rfl))|refine ybl rfl rfl ?_|((first|refine ybg 0 rfl rfl rfl ?_ ?_ ?_ (by first|(refine ybh ?_;rfl)|rfl) rfl rfl ybf ybf ?_|refine ybg 1 rfl rfl rfl ?_ ?_ ?_ (by first|(refine ybh ?_;rfl)|rfl) rfl rfl ybf ybf ?_|refine ybg 2 rfl rfl rfl ?_ ?_ ?_ (by first|(refine ybh ?_;rfl)|rfl) rfl rfl ybf ybf ?_|refine ybg 3 rfl rfl rfl ?_ ?_ ?_ (by first|(refine ybh ?_;rfl)|rfl) rfl rfl ybf ybf ?_|refine ybg 4 rfl rfl rfl ?_ ?_ ?_ (by first|(refine ybh ?_;rfl)|rfl) rfl rfl ybf ybf ?_|refine ybg 5 rfl rfl rfl ?_ ?_ ?_ (by first|(refine ybh ?_;rfl)|rfl) rfl rfl ybf ybf ?_);(·rfl);(·exact nble rfl);(·rfl))|refine ycg ?_))|(refine ych ?_;(first|refine ybo ?_|refine ybp ?_|refine ybq ?_|refine ybr ?_|refine ybs ?_|refine ybt ?_|refine ybu rfl ?_|refine ybv rfl ?_))|(refine yci ?_;(first|refine yby ?_|refine ybz ?_|refine yca ?_|refine ycb ?_|refine ycc ?_|refine ycd ?_|refine yce rfl ?_))));exact hk.1)) : G := h ⟨k⟩
theorem tz_ {G H : Prop} (k : H) (h : Bx H → G := by (intro hk;(refine ycf ?_;(first|(apply ybm;(·exact tq_);(·rfl);(·rfl);(·exact th_)) | refine ybl rfl rfl ?_ | (refine tqs_ ?_ ?_ ?_;(·exact to_);(·exact to_)) | (apply ybn;(·exact tq_);(·rfl);(·rfl);(·rfl);(·exact to_))));(repeat (refine ycf ?_;(first|(apply ybm;(·exact tq_);(·rfl);(·rfl);(·exact th_)) | refine ybl rfl rfl ?_ | (refine tqs_ ?_ ?_ ?_;(·exact to_);(·exact to_)) | (apply ybn;(·exact tq_);(·rfl);(·rfl);(·rfl);(·exact to_)))));exact hk.1)) : G := h ⟨k⟩
end Go.Ck
end

section
namespace Go.Proofs.YtndpclcbobgdlaaGreatDoor
open Go Go.Ck
set_option maxHeartbeats 1000000
def bcs (l : List Int) : List Value := l.map (Value.int .u8)
abbrev Bs8 (h : View) (v : Value) (l : List Int) : Prop := Sc h 1 v l.length (bcs l)
abbrev rowB (v : Value) (l : List Int) : Res := Res.row 5 1 v l.length (bcs l)
theorem bcs_len (l : List Int) : (bcs l).length = l.length := by simp [bcs]
theorem bcs_one (l : List Int) : ∀ u ∈ bcs l, u.oneCell' = true := fun u hu => by
  obtain ⟨x, _, rfl⟩ := List.mem_map.1 hu
  rfl
theorem bcs_app (l m : List Int) : bcs (l ++ m) = bcs l ++ bcs m := by simp [bcs]
theorem qv_shr {P : Program} {n : Nat} {F : List (Nat × Value)} {h : View} {L : List Res} {dst : Option Nat} {ty : Nat} {pos : String} {af : Array Edge} {gd : Option (Nat × Bool)} {T T' : Nat} {x y : Operand} {k k' : IntKind} {i r : Int} {j : Nat} (hx : ev F x = some (.int k i)) (hy : ev F y = some (.int k' j)) (hr : i.fdiv (2 ^ j) = r) (hj : j < k.bits) :
    QV P n F h L ⟨dst, .binOp .shr T x y T', ty, pos, af, gd⟩ (.int k r) := by
  subst hr
  refine .mk fun a w f s => ?_
  have h0 : ¬ ((j : Int) < 0) := by omega
  have h1 : min j k.bits = j := by omega
  have hg : (eqGuard .shr T x y (.int k i) (.int k' j)).run P w = .ok () w := by simp [eqGuard]
  simp [execOp, f.ev hx, f.ev hy, hg, binOp, Op.shift, h0, h1]
theorem qv_minb {P : Program} {n : Nat} {F : List (Nat × Value)} {h : View} {L : List Res} {dst : Option Nat} {ty : Nat} {pos : String} {af : Array Edge} {gd : Option (Nat × Bool)} {ts : Array TypeId} {x y : Operand} {k : IntKind} {i j r : Int} (hx : ev F x = some (.int k i)) (hy : ev F y = some (.int k j)) (hr : (if j < i then j else i) = r) :
    QV P n F h L ⟨dst, .call ⟨.builtin .min, #[x, y], ts⟩, ty, pos, af, gd⟩ (.int k r) := by
  subst hr
  exact .mk fun a w f s => by simp [execOp, resolve, invoke, builtin, Builtin.min_, f.ev hx, f.ev hy, Builtin.min2]
def putLow : Nat → Int → List Int
  | 0, _ => []
  | k + 1, x => (x % 256) :: putLow k (x / 256)
theorem putLow_len : ∀ (k : Nat) (x : Int), (putLow k x).length = k
  | 0, _ => rfl
  | k + 1, x => by simp [putLow, putLow_len k]
theorem putLow_succ : ∀ (k : Nat) (x : Int), putLow (k + 1) x = putLow k x ++ [x / 256 ^ k % 256]
  | 0, x => by simp [putLow]
  | k + 1, x => by
    have := putLow_succ k (x / 256)
    rw [putLow, this, putLow]
    simp only [List.cons_append, List.cons.injEq, true_and, List.append_cancel_left_eq, List.cons.injEq, and_true]
    congr 1
    rw [Int.ediv_ediv_of_nonneg (by decide), Int.pow_succ, Int.mul_comm]
theorem divp_bd {x : Int} {k : Nat} (hx : 0 ≤ x ∧ x < 18446744073709551616) : 0 ≤ x / 256 ^ k ∧ x / 256 ^ k < 18446744073709551616 := by
  have hp : (0 : Int) < 256 ^ k := Int.pow_pos (by decide)
  refine ⟨Int.ediv_nonneg hx.1 (by omega), ?_⟩
  have := Int.ediv_le_self (256 ^ k) hx.1
  omega
theorem divp_succ (x : Int) (k : Nat) : (x / 256 ^ k).fdiv (2 ^ 8) = x / 256 ^ (k + 1) := by
  have e : (2 : Int) ^ 8 = 256 := by decide
  rw [e, Int.fdiv_eq_ediv_of_nonneg _ (by decide), Int.ediv_ediv_of_nonneg (Int.le_of_lt (Int.pow_pos (by decide))), Int.pow_succ]
theorem wrap_u8 (x : Int) : IntKind.u8.wrap x = x % 256 := by
  simp [IntKind.wrap, IntKind.bits, IntKind.signed]
theorem PutLow_sp (x : Int) (m : Nat) (hx : 0 ≤ x ∧ x < 18446744073709551616) (hm : m ≤ 64) (h : View) (w : World) (s : St ⟨w, h, []⟩ h [] w) :
    Calls Tryz.prog 73 [.int .u64 x, .int .i64 m].toArray w fun e w' => ∃ v, e = .returned v ∧ St ⟨w, h, []⟩ h [rowB v (putLow m x)] w' ∧ True := by
  refine calls_enter Tryz.func73 rfl Tryz.ntmps73 rfl s ?_
  have hj : (if (64 : Int) < (m : Int) then (64 : Int) else (m : Int)) = (m : Int) := by split<;>omega
  repeat' (first|(refine ycf ?_;apply ybk;(·first|(refine qv_minb rfl rfl hj));(·rfl);(·rfl))|refine t1_ ?_|(refine ta_ ?_;intro _)|((fail_if_success (refine ybi rfl ?_));refine ybj rfl ?_ ?_<;>(intro ht;rw [ht];first|replace ht := oet_ ht|replace ht := oef_ ht|skip))|(refine ych ?_;first|(refine ybw rfl ?_ ?_<;>intro ht)|(refine ybx rfl ?_ ?_<;>intro ht)))
  refine cx_row 5 1 ?_
  refine cx_loop (X := Nat × Value) (fun y => [(0, .int .u64 (x / 256 ^ y.1)), (5, y.2), (7, .int .i64 m), (8, .int .i64 y.1)]) (fun _ => h) (fun y => [Res.row 5 1 y.2 y.1 (bcs (putLow y.1 x))]) (fun y => y.1 ≤ m) (fun y => m - y.1) (0, .slice none 0 0) (Nat.zero_le _) ?_ (fun _ s => s) ?_
  · refine Sub.cons rfl ?_ ts_
    simp
  rintro ⟨k, v⟩ hk
  replace hk : k ≤ m := hk
  dsimp only
  by_cases hkm : k < m
  · have hb := divp_bd (k := k) hx
    have hs := divp_succ x k
    have hw := wrap_u8 (x / 256 ^ k)
    repeat' (first|(refine ycf ?_;apply ybk;(·first|(first|(refine qv_convert_int' rfl hw)|(refine qv_shr (j := 8) rfl rfl hs (by decide))));(·rfl);(·rfl))|refine t1_ ?_|(refine ta_ ?_;intro _)|((fail_if_success (refine ybi rfl ?_));refine ybj rfl ?_ ?_<;>(intro ht;rw [ht];first|replace ht := oet_ ht|replace ht := oef_ ht|skip))|(refine ych ?_;first|(refine ybw rfl ?_ ?_<;>intro ht)|(refine ybx rfl ?_ ?_<;>intro ht)))
    · refine rx_append (sz := 1) 1 rfl rfl rfl (yaz 0 rfl) rfl (bcs_one [x / 256 ^ k % 256]) rfl (by omega) (by unfold maxLen; omega) (by omega) rfl rfl rfl ybf (fun _ => ybf) ?_
      intro v2 _
      repeat' (first|(refine ycf ?_;apply ybk;(·first|(first|(refine qv_convert_int' rfl hw)|(refine qv_shr (j := 8) rfl rfl hs (by decide))));(·rfl);(·rfl))|refine t1_ ?_|(refine ta_ ?_;intro _)|((fail_if_success (refine ybi rfl ?_));refine ybj rfl ?_ ?_<;>(intro ht;rw [ht];first|replace ht := oet_ ht|replace ht := oef_ ht|skip))|(refine ych ?_;first|(refine ybw rfl ?_ ?_<;>intro ht)|(refine ybx rfl ?_ ?_<;>intro ht)))
      refine nx_round (k + 1, v2) (by show k + 1 ≤ m; omega) (by show m - (k + 1) < m - k; omega) ts_ (fun _ s => ?_)
      dsimp only
      rw [putLow_succ, bcs_app]
      exact s.tl
    · omega
  · have ek : k = m := by omega
    subst ek
    repeat' (first|(refine ycf ?_;apply ybk;(·first|(first|(refine qv_convert_int' rfl hw)|(refine qv_shr (j := 8) rfl rfl hs (by decide))));(·rfl);(·rfl))|refine t1_ ?_|(refine ta_ ?_;intro _)|((fail_if_success (refine ybi rfl ?_));refine ybj rfl ?_ ?_<;>(intro ht;rw [ht];first|replace ht := oet_ ht|replace ht := oef_ ht|skip))|(refine ych ?_;first|(refine ybw rfl ?_ ?_<;>intro ht)|(refine ybx rfl ?_ ?_<;>intro ht)))
    · omega
    refine nx_ret1 rfl (rv_tmp rfl) (fun w' s' => ⟨_, rfl, ?_, trivial⟩)
    unfold rowB
    rw [putLow_len]
    exact s'
theorem Byte_sp (n : Int) (h : View) (w : World) (s : St ⟨w, h, []⟩ h [] w) :
    Calls Tryz.prog 55 [.int .i64 n].toArray w fun e w' => ∃ b, e = .returned (.tuple #[.int .u8 b, .bool (decide (0 ≤ n ∧ n ≤ 255))]) ∧ St ⟨w, h, []⟩ h [] w' ∧ ((0 ≤ n ∧ n ≤ 255) → b = n) := by
  refine calls_enter Tryz.func55 rfl Tryz.ntmps55 rfl s ?_
  have hw := wrap_u8 n
  have hw2 : IntKind.i64.wrap (n % 256) = n % 256 := by
    rw [IntKind.wrap_i64]; omega
  repeat' (first|(refine ycf ?_;apply ybk;(·first|(first|(refine qv_convert_int' rfl hw)|(refine qv_convert_int' rfl hw2)));(·rfl);(·rfl))|refine t1_ ?_|(refine ta_ ?_;intro _)|((fail_if_success (refine ybi rfl ?_));refine ybj rfl ?_ ?_<;>(intro ht;rw [ht];first|replace ht := oet_ ht|replace ht := oef_ ht|skip))|(refine ych ?_;first|(refine ybw rfl ?_ ?_<;>intro ht)|(refine ybx rfl ?_ ?_<;>intro ht)))
  · have hq := ht
    refine nx_ret2 rfl (rv_tmp rfl) (rv_tmp rfl) (fun w' s' => ⟨n % 256, ?_, s'.nil, fun _ => by omega⟩)
    rw [decide_eq_true (by omega)]
  · have hq := ht
    refine nx_ret2 rfl (rv_tmp rfl) (rv_tmp rfl) (fun w' s' => ⟨0, ?_, s'.nil, fun _ => by omega⟩)
    rw [decide_eq_false (by omega)]
theorem Int_sp (x : Int) (hx : 0 ≤ x ∧ x < 18446744073709551616) (h : View) (w : World) (s : St ⟨w, h, []⟩ h [] w) :
    Calls Tryz.prog 104 [.int .u64 x].toArray w fun e w' => e = .returned (.tuple #[.int .i64 (if x < 9223372036854775808 then x else 0), .bool (decide (x < 9223372036854775808))]) ∧ St ⟨w, h, []⟩ h [] w' := by
  refine calls_enter Tryz.func104 rfl Tryz.ntmps104 rfl s ?_
  obtain ⟨r, hw⟩ : ∃ r, IntKind.i64.wrap x = r := ⟨_, rfl⟩
  have hr : (x < 9223372036854775808 → r = x) ∧ (¬ x < 9223372036854775808 → r < 0) := by
    rw [← hw, IntKind.wrap_i64]
    constructor <;> intro _ <;> omega
  repeat' (first|(refine ycf ?_;apply ybk;(·first|(refine qv_convert_int' rfl hw));(·rfl);(·rfl))|refine t1_ ?_|(refine ta_ ?_;intro _)|((fail_if_success (refine ybi rfl ?_));refine ybj rfl ?_ ?_<;>(intro ht;rw [ht];first|replace ht := oet_ ht|replace ht := oef_ ht|skip))|(refine ych ?_;first|(refine ybw rfl ?_ ?_<;>intro ht)|(refine ybx rfl ?_ ?_<;>intro ht)))
  · have hq := ht
    have hx2 : x < 9223372036854775808 := Decidable.byContradiction fun hn => by have := hr.2 hn; omega
    refine nx_ret2 rfl (rv_tmp rfl) (rv_tmp rfl) (fun w' s' => ⟨?_, s'.nil⟩)
    rw [decide_eq_true hx2, if_pos hx2, hr.1 hx2]
  · have hq := ht
    have hx2 : ¬ x < 9223372036854775808 := fun hn => by have := hr.1 hn; omega
    refine nx_ret2 rfl (rv_tmp rfl) (rv_tmp rfl) (fun w' s' => ⟨?_, s'.nil⟩)
    rw [decide_eq_false hx2, if_neg hx2]
def rvK (l : List Int) (i : Nat) : List Int := (List.range l.length).map fun t => if t < i ∨ l.length - i ≤ t then l.getD (l.length - 1 - t) 0 else l.getD t 0
theorem rvK_len (l : List Int) (i : Nat) : (rvK l i).length = l.length := by simp [rvK]
theorem rvK_at {l : List Int} {i t : Nat} (ht : t < l.length) : (rvK l i)[t]'(by rw [rvK_len]; exact ht) = if t < i ∨ l.length - i ≤ t then l.getD (l.length - 1 - t) 0 else l.getD t 0 := by
  simp [rvK]
theorem rvK_zero (l : List Int) : rvK l 0 = l := by
  refine List.ext_getElem (rvK_len l 0) fun t h1 h2 => ?_
  rw [rvK_at h2, if_neg (by omega)]
  simp [h2]
theorem rvK_end {l : List Int} {i : Nat} (hi : l.length ≤ 2 * i + 1) : rvK l i = l.reverse := by
  refine List.ext_getElem (by rw [rvK_len]; simp) fun t h1 h2 => ?_
  have ht : t < l.length := by simpa using h2
  rw [rvK_at ht, List.getElem_reverse]
  have e : l.getD (l.length - 1 - t) 0 = l[l.length - 1 - t]'(by omega) := by simp [show l.length - 1 - t < l.length by omega]
  split
  · exact e
  · rename_i hn
    have : l.length - 1 - t = t := by omega
    rw [← e, this]
theorem rvK_step {l : List Int} {i : Nat} (hi : 2 * i + 1 < l.length) : ((rvK l i).set i (l.getD (l.length - 1 - i) 0)).set (l.length - 1 - i) (l.getD i 0) = rvK l (i + 1) := by
  refine List.ext_getElem (by simp [rvK_len]) fun t h1 h2 => ?_
  have ht : t < l.length := by rw [rvK_len] at h2; exact h2
  rw [List.getElem_set, rvK_at ht]
  by_cases c1 : l.length - 1 - i = t
  · rw [if_pos c1, if_pos (by omega)]
    congr 1; omega
  · rw [if_neg c1, List.getElem_set]
    by_cases c2 : i = t
    · rw [if_pos c2, if_pos (by omega), c2]
    · rw [if_neg c2, rvK_at ht]
      by_cases c3 : t < i ∨ l.length - i ≤ t
      · rw [if_pos c3, if_pos (by omega)]
      · rw [if_neg c3, if_neg (by omega)]
theorem spl_byte {l : List Int} {o : Nat} {x : Int} (ho : o < l.length) : spl (bcs l) o (Value.int .u8 x).cells.toList = bcs (l.set o x) := by
  show (bcs l).take o ++ [Value.int .u8 x] ++ (bcs l).drop (o + 1) = bcs (l.set o x)
  unfold bcs
  rw [List.map_set, List.set_eq_take_append_cons_drop, if_pos (by simpa using ho)]
  simp
end Go.Proofs.YtndpclcbobgdlaaGreatDoor
end

section
namespace Go.Ck
open Go
section
variable {P : Program} {n : Nat} {K : Bs} {F : List (Nat × Value)} {h : View} {L : List Res} {Q : Exit → Act → World → Prop}
theorem wp_region_lexL {ops : Array Oper} {S : World → Prop} {lo : Nat → Bool} {id : Nat} {Q : Exit → Act → World → Prop} {a : Act} {w : World} (hm : P.follows .mixedOrders = true) (hB : lexOkAt ops (masks ops) lo (barOf ops) = true)
    (h : wpX P ops S lo (barOf ops) (Q .normal) (enumFrom 0 ops.toList) a w.drew) : (Code.region id ops true).wp P Q a w := by
  refine wp_region_any hm (lex_any hB _ (enumFrom 0 ops.toList) _ a _ (by simp [enumFrom_length]) ⟨?_, ?_, ?_, ?_, ?_⟩ h)
  · intro p hp
    obtain ⟨j, h1, h2⟩ := (enumFrom_mem _ _ _).1 hp
    have : p.1 = j := by omega
    rw [this]; simpa using h1
  · exact enumFrom_sorted _ _
  · intro i hi
    simp only [Array.getD_eq_getD_getElem?, Array.getElem?_replicate, hi, if_true, Option.getD_some, true_iff]
    exact ⟨ops[i], (enumFrom_mem _ _ _).2 ⟨i, by simp [hi], by simp⟩⟩
  · intro i o ho hl
    simp only [Array.getD_eq_getD_getElem?, Array.getElem?_replicate] at hl
    split at hl <;> simp at hl
  · simp
theorem cx_region_drawL {id : Nat} {ops : Array Oper} (LS : List Res) (ex : List Nat) (hm : P.follows .mixedOrders = true) (hB : lexOkAt ops (masks ops) (fun i => loOf ops i || ex.contains i) (barOf ops) = true)
    (hx : RX P n K ⟨ops, Hd h LS, fun i => loOf ops i || ex.contains i, barOf ops⟩ (enumFrom 0 ops.toList) F h L Q) : CX P n K (.region id ops true) F h L Q := by
  unfold CX
  unfold RX at hx
  exact fun a w f s => wp_region_lexL hm hB (hx a w.drew ⟨f.size, f.dfs, f.get⟩ s.drew)
end
end Go.Ck
namespace Go.Proofs.YtndpclcbobgdlaaGreatDoor
open Go Go.Ck
set_option maxHeartbeats 1000000
theorem byte_cell {h : View} {L : List Res} {g o i : Nat} {l : List Int} (c : Cells h L ⟨g, 0, none⟩ (bcs l)) (ho : o = 0 + i) (hi : i < l.length) : CellAt h L g o (.int .u8 (l.getD i 0)) := by
  rw [ho]
  exact c.cell (by simp [bcs, hi])
theorem byte_cellx {h : View} {L : List Res} {g o i : Nat} {l : List Int} {x : Int} (hx : l.getD i 0 = x) (c : Cells h L ⟨g, 0, none⟩ (bcs l)) (ho : o = 0 + i) (hi : i < l.length) : CellAt h L g o (.int .u8 x) := by
  rw [← hx]
  exact byte_cell c ho hi
theorem spl_byte' {l : List Int} {o t : Nat} {x : Int} (ho : o = t) (hi : t < l.length) : spl (bcs l) o (Value.int .u8 x).cells.toList = bcs (l.set t x) := by
  subst ho
  exact spl_byte hi
theorem Reverse_sp (g cap : Nat) (l : List Int) (hl : l.length ≤ 1000000) (h : View) (w : World) (s : St ⟨w, h, doms [rowB (.slice (some ⟨g, 0, none⟩) l.length cap) l]⟩ h [rowB (.slice (some ⟨g, 0, none⟩) l.length cap) l] w) :
    Calls Tryz.prog 74 [.slice (some ⟨g, 0, none⟩) l.length cap].toArray w fun e w' => ∃ x : Value, e = .returned x ∧ St ⟨w, h, doms [rowB (.slice (some ⟨g, 0, none⟩) l.length cap) l]⟩ h [rowB (.slice (some ⟨g, 0, none⟩) l.length cap) l.reverse] w' ∧ True := by
  refine calls_enter Tryz.func74 rfl Tryz.ntmps74 rfl s ?_
  repeat' (first|refine tw_ ?_|(refine ta_ ?_;intro _)|((fail_if_success (refine ybi rfl ?_));refine ybj rfl ?_ ?_<;>(intro ht;rw [ht];first|replace ht := oet_ ht|replace ht := oef_ ht|skip))|(refine ych ?_;first|(refine ybw rfl ?_ ?_<;>intro ht)|(refine ybx rfl ?_ ?_<;>intro ht)))
  refine cx_loop (X := Nat) (fun i => [(0, .slice (some ⟨g, 0, none⟩) l.length cap), (2, .int .i64 i), (3, .int .i64 ((l.length : Int) - 1 - i))]) (fun _ => h) (fun i => [Res.row 5 1 (.slice (some ⟨g, 0, none⟩) l.length cap) l.length (bcs (rvK l i))]) (fun i => 2 * i ≤ l.length + 1) (fun i => l.length - i) 0 (by omega) ?_ (fun _ s => ?_) ?_
  · refine Sub.cons rfl rfl (Sub.cons rfl rfl (Sub.cons rfl ?_ Sub.nil))
    congr 1
    show (l.length : Int) - 1 = (l.length : Int) - 1 - ((0 : Nat) : Int)
    omega
  · rw [rvK_zero]; exact s
  intro i hi
  by_cases hil : 2 * i + 1 < l.length
  · have hk := rvK_len l i
    have hkk : ((l.length : Int) - 1 - (i : Int)).toNat = l.length - 1 - i := by omega
    have e1 : (rvK l i).getD i 0 = l.getD i 0 := by
      have := rvK_at (l := l) (i := i) (t := i) (by omega)
      rw [if_neg (by omega)] at this
      rw [List.getD_eq_getElem?_getD, List.getElem?_eq_getElem (by omega), this]; rfl
    have e2 : (rvK l i).getD (l.length - 1 - i) 0 = l.getD (l.length - 1 - i) 0 := by
      have := rvK_at (l := l) (i := i) (t := l.length - 1 - i) (by omega)
      rw [if_neg (by omega)] at this
      rw [List.getD_eq_getElem?_getD, List.getElem?_eq_getElem (by omega), this]; rfl
    have hij : i ≠ l.length - 1 - i := by omega
    have hpart : ∀ l2 : List Int, l2.length = l.length → l2.getD (l.length - 1 - i) 0 = l.getD (l.length - 1 - i) 0 → ∀ w, Hd h [Res.row 5 1 (.slice (some ⟨g, 0, none⟩) l.length cap) l.length (bcs l2)] w → Hd h [Res.part g (0 + ((l.length : Int) - 1 - (i : Int)).toNat * 1) (.int .u8 (l.getD (l.length - 1 - i) 0)) []] w := fun l2 hl2 hg w s => ⟨s.view, fun r hr => by
      have hr : r = Res.part g (0 + ((l.length : Int) - 1 - (i : Int)).toNat * 1) (.int .u8 (l.getD (l.length - 1 - i) 0)) [] := by simpa using hr
      subst hr
      intro j u hj
      cases j with
      | zero =>
        have hc := cell_at_out (byte_cell (h := h) (o := 0 + ((l.length : Int) - 1 - (i : Int)).toNat * 1 + 0) (row_cells 0 rfl) (i := l.length - 1 - i) (by omega) (by omega)) w s
        rw [hg] at hc
        have hu : u = .int .u8 (l.getD (l.length - 1 - i) 0) := by simpa using hj.symm
        rw [hu]; exact hc
      | succ j => simp at hj⟩
    have hs1 : ((rvK l i).set i (l.getD (l.length - 1 - i) 0)).getD (l.length - 1 - i) 0 = l.getD (l.length - 1 - i) 0 := by
      rw [List.getD_eq_getElem?_getD, List.getElem?_set_ne hij, ← List.getD_eq_getElem?_getD, e2]
    have hl1 : ((rvK l i).set i (l.getD (l.length - 1 - i) 0)).length = l.length := by rw [List.length_set, hk]
    have hnx : (l.length : Int) - 1 - (i : Int) - 1 = (l.length : Int) - 1 - ((i + 1 : Nat) : Int) := by omega
    repeat' (first|refine tw_ ?_|(refine ta_ ?_;intro _)|((fail_if_success (refine ybi rfl ?_));refine ybj rfl ?_ ?_<;>(intro ht;rw [ht];first|replace ht := oet_ ht|replace ht := oef_ ht|skip))|(refine ych ?_;first|(refine ybw rfl ?_ ?_<;>intro ht)|(refine ybx rfl ?_ ?_<;>intro ht)))
    · refine cx_region_drawL [Res.part g (0 + ((l.length : Int) - 1 - (i : Int)).toNat * 1) (.int .u8 (l.getD (l.length - 1 - i) 0)) []] [11] rfl (by kernel_rfl) ?_
      repeat' (refine ycf ?_;(first|(first|(apply ybm;(·(first|(apply yae;(·rfl);(·(first|exact Cells.cell0 (part_cells 0 rfl)|exact byte_cellx e1 (row_cells 0 rfl) (by omega) (by omega))))|exact tq_));(·rfl);(·rfl);(·(first|exact fun w s => hpart _ hk e2 w s|exact fun w s => hpart _ hl1 hs1 w s)))|refine ybl rfl rfl ?_|((fail_if_success (refine ybi rfl ?_));refine ybj rfl ?_ ?_<;>(intro ht;rw [ht];first|replace ht := oet_ ht|replace ht := oef_ ht|skip))|(refine tb_ ?_ ?_ ?_;(·(first|exact ybf|(refine .inl ?_;(first|exact fun w s => hpart _ hk e2 w s|exact fun w s => hpart _ hl1 hs1 w s))|exact to_));(·intro _;(first|exact ybf|(refine .inl ?_;(first|exact fun w s => hpart _ hk e2 w s|exact fun w s => hpart _ hl1 hs1 w s))|exact to_));intro _)|(first|(first|(refine rx_rowstore 0 rfl rfl rfl rfl (by show 0 + i * 1 + 1 ≤ _;omega) rfl (spl_byte' (t := i) (by show 0 + i * 1 = i;omega) (by omega)) rfl rfl ?_ ?_ ?_;(·(first|exact ybf|(refine .inl ?_;(first|exact fun w s => hpart _ hk e2 w s|exact fun w s => hpart _ hl1 hs1 w s))|exact to_));(·(first|exact ybf|(refine .inl ?_;(first|exact fun w s => hpart _ hk e2 w s|exact fun w s => hpart _ hl1 hs1 w s))|exact to_)))|(refine rx_rowstore 0 rfl rfl rfl rfl (by show 0 + ((l.length : Int) - 1 - (i : Int)).toNat * 1 + 1 ≤ _;omega) rfl (spl_byte' (t := l.length - 1 - i) (by omega) (by omega)) rfl rfl ?_ ?_ ?_;(·(first|exact ybf|(refine .inl ?_;(first|exact fun w s => hpart _ hk e2 w s|exact fun w s => hpart _ hl1 hs1 w s))|exact to_));(·(first|exact ybf|(refine .inl ?_;(first|exact fun w s => hpart _ hk e2 w s|exact fun w s => hpart _ hl1 hs1 w s))|exact to_))))|(refine tqs_ ?_ ?_ ?_;(·(first|exact ybf|(refine .inl ?_;(first|exact fun w s => hpart _ hk e2 w s|exact fun w s => hpart _ hl1 hs1 w s))|exact to_));(·(first|exact ybf|(refine .inl ?_;(first|exact fun w s => hpart _ hk e2 w s|exact fun w s => hpart _ hl1 hs1 w s))|exact to_))))|(apply ybn;(·(first|(apply yae;(·rfl);(·(first|exact Cells.cell0 (part_cells 0 rfl)|exact byte_cellx e1 (row_cells 0 rfl) (by omega) (by omega))))|exact tq_));(·rfl);(·rfl);(·rfl);(·(first|exact ybf|(refine .inl ?_;(first|exact fun w s => hpart _ hk e2 w s|exact fun w s => hpart _ hl1 hs1 w s))|exact to_))))|refine ycg ?_))
      repeat' (first|(refine ycf ?_;apply ybk;(·first|(apply yae;(·rfl);(·(first|exact Cells.cell0 (part_cells 0 rfl)|exact byte_cellx e1 (row_cells 0 rfl) (by omega) (by omega)))));(·rfl);(·rfl))|(first|(refine rx_rowstore 0 rfl rfl rfl rfl (by show 0 + i * 1 + 1 ≤ _;omega) rfl (spl_byte' (t := i) (by show 0 + i * 1 = i;omega) (by omega)) rfl rfl ?_ ?_ ?_;(·(first|exact ybf|(refine .inl ?_;(first|exact fun w s => hpart _ hk e2 w s|exact fun w s => hpart _ hl1 hs1 w s))|exact to_));(·(first|exact ybf|(refine .inl ?_;(first|exact fun w s => hpart _ hk e2 w s|exact fun w s => hpart _ hl1 hs1 w s))|exact to_)))|(refine rx_rowstore 0 rfl rfl rfl rfl (by show 0 + ((l.length : Int) - 1 - (i : Int)).toNat * 1 + 1 ≤ _;omega) rfl (spl_byte' (t := l.length - 1 - i) (by omega) (by omega)) rfl rfl ?_ ?_ ?_;(·(first|exact ybf|(refine .inl ?_;(first|exact fun w s => hpart _ hk e2 w s|exact fun w s => hpart _ hl1 hs1 w s))|exact to_));(·(first|exact ybf|(refine .inl ?_;(first|exact fun w s => hpart _ hk e2 w s|exact fun w s => hpart _ hl1 hs1 w s))|exact to_))))|refine t1_ ?_|(refine ta_ ?_;intro _)|((fail_if_success (refine ybi rfl ?_));refine ybj rfl ?_ ?_<;>(intro ht;rw [ht];first|replace ht := oet_ ht|replace ht := oef_ ht|skip))|(refine ych ?_;first|(refine ybw rfl ?_ ?_<;>intro ht)|(refine ybx rfl ?_ ?_<;>intro ht)))
      refine nx_round (i + 1) (by omega) (by omega) (Sub.cons rfl rfl (Sub.cons rfl rfl (Sub.cons rfl (congrArg (Value.int .i64) hnx) Sub.nil))) (fun _ s => ?_)
      rw [← rvK_step hil]
      exact s
    · omega
  · repeat' (first|(refine ycf ?_;apply ybk;(·first|(apply yae;(·rfl);(·(first|exact Cells.cell0 (part_cells 0 rfl)|exact byte_cellx e1 (row_cells 0 rfl) (by omega) (by omega)))));(·rfl);(·rfl))|(first|(refine rx_rowstore 0 rfl rfl rfl rfl (by show 0 + i * 1 + 1 ≤ _;omega) rfl (spl_byte' (t := i) (by show 0 + i * 1 = i;omega) (by omega)) rfl rfl ?_ ?_ ?_;(·(first|exact ybf|(refine .inl ?_;(first|exact fun w s => hpart _ hk e2 w s|exact fun w s => hpart _ hl1 hs1 w s))|exact to_));(·(first|exact ybf|(refine .inl ?_;(first|exact fun w s => hpart _ hk e2 w s|exact fun w s => hpart _ hl1 hs1 w s))|exact to_)))|(refine rx_rowstore 0 rfl rfl rfl rfl (by show 0 + ((l.length : Int) - 1 - (i : Int)).toNat * 1 + 1 ≤ _;omega) rfl (spl_byte' (t := l.length - 1 - i) (by omega) (by omega)) rfl rfl ?_ ?_ ?_;(·(first|exact ybf|(refine .inl ?_;(first|exact fun w s => hpart _ hk e2 w s|exact fun w s => hpart _ hl1 hs1 w s))|exact to_));(·(first|exact ybf|(refine .inl ?_;(first|exact fun w s => hpart _ hk e2 w s|exact fun w s => hpart _ hl1 hs1 w s))|exact to_))))|refine t1_ ?_|(refine ta_ ?_;intro _)|((fail_if_success (refine ybi rfl ?_));refine ybj rfl ?_ ?_<;>(intro ht;rw [ht];first|replace ht := oet_ ht|replace ht := oef_ ht|skip))|(refine ych ?_;first|(refine ybw rfl ?_ ?_<;>intro ht)|(refine ybx rfl ?_ ?_<;>intro ht)))
    · omega
    refine nx_end0 rfl (fun w' s' => ⟨_, rfl, ?_, trivial⟩)
    rw [← rvK_end (i := i) (by omega)]
    show St _ _ [Res.row 5 1 (.slice (some ⟨g, 0, none⟩) l.length cap) (rvK l i).length (bcs (rvK l i))] _
    rw [rvK_len]
    exact s'
end Go.Proofs.YtndpclcbobgdlaaGreatDoor
end
