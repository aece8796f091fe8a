/-
  Part 2 of a proof: CkTy CkTc.
  Conditions: each theorem states its own.
-/
import Derived.Test.YtaofgcahmfailaaGreatDoorRows
import Derived.Test.YtaofgcahmfailaaGreatDoorCmNPM1
set_option maxRecDepth 100000
set_option linter.unusedVariables false
set_option linter.unusedSimpArgs false
section
namespace Go.Proofs.YtaofgcahmfailaaGreatDoor
open Go Go.Ck
instance cku3 : TyU Tryz.prog 3 (Go.TypeDesc.int Go.IntKind.i64) := ⟨Tryz.underlying3⟩
instance cku4 : TyU Tryz.prog 4 (Go.TypeDesc.bool) := ⟨Tryz.underlying4⟩
instance cku5 : TyU Tryz.prog 5 (Go.TypeDesc.int Go.IntKind.u8) := ⟨Tryz.underlying5⟩
instance cku9 : TyU Tryz.prog 9 (Go.TypeDesc.string) := ⟨Tryz.underlying9⟩
instance cku25 : TyU Tryz.prog 25 (Go.TypeDesc.array 32 5) := ⟨Tryz.underlying25⟩
instance cku27 : TyU Tryz.prog 27 (Go.TypeDesc.int Go.IntKind.i64) := ⟨Tryz.underlying27⟩
instance cku32 : TyU Tryz.prog 32 (Go.TypeDesc.int Go.IntKind.u64) := ⟨Tryz.underlying32⟩
instance cku33 : TyU Tryz.prog 33 (Go.TypeDesc.slice 5) := ⟨Tryz.underlying33⟩
instance cku34 : TyU Tryz.prog 34 (Go.TypeDesc.array 16 3) := ⟨Tryz.underlying34⟩
instance cku35 : TyU Tryz.prog 35 (Go.TypeDesc.slice 45) := ⟨Tryz.underlying35⟩
instance ckf37_0 : TyF Tryz.prog 37 0 0 34 16 := ⟨_, _, Tryz.underlying37, rfl, rfl, rfl, Tryz.sizeOf34⟩
instance ckf37_1 : TyF Tryz.prog 37 1 16 35 1 := ⟨_, _, Tryz.underlying37, rfl, rfl, rfl, Tryz.sizeOf35⟩
instance cku38 : TyU Tryz.prog 38 (Go.TypeDesc.slice 3) := ⟨Tryz.underlying38⟩
instance cku39 : TyU Tryz.prog 39 (Go.TypeDesc.slice 77) := ⟨Tryz.underlying39⟩
instance ckf42_0 : TyF Tryz.prog 42 0 0 34 16 := ⟨_, _, Tryz.underlying42, rfl, rfl, rfl, Tryz.sizeOf34⟩
instance ckf42_1 : TyF Tryz.prog 42 1 16 35 1 := ⟨_, _, Tryz.underlying42, rfl, rfl, rfl, Tryz.sizeOf35⟩
instance ckf45_0 : TyF Tryz.prog 45 0 0 3 1 := ⟨_, _, Tryz.underlying45, rfl, rfl, rfl, Tryz.sizeOf3⟩
instance ckf45_1 : TyF Tryz.prog 45 1 1 3 1 := ⟨_, _, Tryz.underlying45, rfl, rfl, rfl, Tryz.sizeOf3⟩
instance ckf47_0 : TyF Tryz.prog 47 0 0 45 2 := ⟨_, _, Tryz.underlying47, rfl, rfl, rfl, Tryz.sizeOf45⟩
instance ckf47_1 : TyF Tryz.prog 47 1 2 42 17 := ⟨_, _, Tryz.underlying47, rfl, rfl, rfl, Tryz.sizeOf42⟩
instance ckf47_2 : TyF Tryz.prog 47 2 19 33 1 := ⟨_, _, Tryz.underlying47, rfl, rfl, rfl, Tryz.sizeOf33⟩
instance cku65 : TyU Tryz.prog 65 (Go.TypeDesc.slice 47) := ⟨Tryz.underlying65⟩
instance ckf77_0 : TyF Tryz.prog 77 0 0 45 2 := ⟨_, _, Tryz.underlying77, rfl, rfl, rfl, Tryz.sizeOf45⟩
instance ckf77_1 : TyF Tryz.prog 77 1 2 37 17 := ⟨_, _, Tryz.underlying77, rfl, rfl, rfl, Tryz.sizeOf37⟩
instance ckf77_2 : TyF Tryz.prog 77 2 19 9 1 := ⟨_, _, Tryz.underlying77, rfl, rfl, rfl, Tryz.sizeOf9⟩
instance cku118 : TyU Tryz.prog 118 (Go.TypeDesc.pointer 129) := ⟨Tryz.underlying118⟩
instance ckf129_0 : TyF Tryz.prog 129 0 0 33 1 := ⟨_, _, Tryz.underlying129, rfl, rfl, rfl, Tryz.sizeOf33⟩
instance ckf129_1 : TyF Tryz.prog 129 1 1 4 1 := ⟨_, _, Tryz.underlying129, rfl, rfl, rfl, Tryz.sizeOf4⟩
instance cku143 : TyU Tryz.prog 143 (Go.TypeDesc.array 12 5) := ⟨Tryz.underlying143⟩
instance cku148 : TyU Tryz.prog 148 (Go.TypeDesc.pointer 170) := ⟨Tryz.underlying148⟩
instance cku150 : TyU Tryz.prog 150 (Go.TypeDesc.pointer 3) := ⟨Tryz.underlying150⟩
instance cku162 : TyU Tryz.prog 162 (Go.TypeDesc.int Go.IntKind.u32) := ⟨Tryz.underlying162⟩
instance ckf170_0 : TyF Tryz.prog 170 0 0 33 1 := ⟨_, _, Tryz.underlying170, rfl, rfl, rfl, Tryz.sizeOf33⟩
instance ckf170_1 : TyF Tryz.prog 170 1 1 27 1 := ⟨_, _, Tryz.underlying170, rfl, rfl, rfl, Tryz.sizeOf27⟩
instance cku176 : TyU Tryz.prog 176 (Go.TypeDesc.slice 33) := ⟨Tryz.underlying176⟩
instance cku180 : TyU Tryz.prog 180 (Go.TypeDesc.array 64 5) := ⟨Tryz.underlying180⟩
instance cku184 : TyU Tryz.prog 184 (Go.TypeDesc.int Go.IntKind.u64) := ⟨Tryz.underlying184⟩
instance cku188 : TyU Tryz.prog 188 (Go.TypeDesc.array 8 162) := ⟨Tryz.underlying188⟩
instance cku191 : TyU Tryz.prog 191 (Go.TypeDesc.array 16 162) := ⟨Tryz.underlying191⟩
instance cku204 : TyU Tryz.prog 204 (Go.TypeDesc.array 64 162) := ⟨Tryz.underlying204⟩
instance cka3 : TyA Tryz.prog 3 false := ⟨Tryz.isAgg3⟩
instance cka4 : TyA Tryz.prog 4 false := ⟨Tryz.isAgg4⟩
instance cka5 : TyA Tryz.prog 5 false := ⟨Tryz.isAgg5⟩
instance cka9 : TyA Tryz.prog 9 false := ⟨Tryz.isAgg9⟩
instance cka25 : TyA Tryz.prog 25 true := ⟨Tryz.isAgg25⟩
instance cka27 : TyA Tryz.prog 27 false := ⟨Tryz.isAgg27⟩
instance cka32 : TyA Tryz.prog 32 false := ⟨Tryz.isAgg32⟩
instance cka33 : TyA Tryz.prog 33 false := ⟨Tryz.isAgg33⟩
instance cka34 : TyA Tryz.prog 34 true := ⟨Tryz.isAgg34⟩
instance cka35 : TyA Tryz.prog 35 false := ⟨Tryz.isAgg35⟩
instance cka37 : TyA Tryz.prog 37 true := ⟨Tryz.isAgg37⟩
instance cka38 : TyA Tryz.prog 38 false := ⟨Tryz.isAgg38⟩
instance cka39 : TyA Tryz.prog 39 false := ⟨Tryz.isAgg39⟩
instance cka42 : TyA Tryz.prog 42 true := ⟨Tryz.isAgg42⟩
instance cka45 : TyA Tryz.prog 45 true := ⟨Tryz.isAgg45⟩
instance cka47 : TyA Tryz.prog 47 true := ⟨Tryz.isAgg47⟩
instance cka65 : TyA Tryz.prog 65 false := ⟨Tryz.isAgg65⟩
instance cka77 : TyA Tryz.prog 77 true := ⟨Tryz.isAgg77⟩
instance cka118 : TyA Tryz.prog 118 false := ⟨Tryz.isAgg118⟩
instance cka129 : TyA Tryz.prog 129 true := ⟨Tryz.isAgg129⟩
instance cka143 : TyA Tryz.prog 143 true := ⟨Tryz.isAgg143⟩
instance cka148 : TyA Tryz.prog 148 false := ⟨Tryz.isAgg148⟩
instance cka150 : TyA Tryz.prog 150 false := ⟨Tryz.isAgg150⟩
instance cka162 : TyA Tryz.prog 162 false := ⟨Tryz.isAgg162⟩
instance cka170 : TyA Tryz.prog 170 true := ⟨Tryz.isAgg170⟩
instance cka176 : TyA Tryz.prog 176 false := ⟨Tryz.isAgg176⟩
instance cka180 : TyA Tryz.prog 180 true := ⟨Tryz.isAgg180⟩
instance cka184 : TyA Tryz.prog 184 false := ⟨Tryz.isAgg184⟩
instance cka188 : TyA Tryz.prog 188 true := ⟨Tryz.isAgg188⟩
instance cka191 : TyA Tryz.prog 191 true := ⟨Tryz.isAgg191⟩
instance cka204 : TyA Tryz.prog 204 true := ⟨Tryz.isAgg204⟩
instance cks3 : TyS Tryz.prog 3 1 := ⟨Tryz.sizeOf3⟩
instance cks4 : TyS Tryz.prog 4 1 := ⟨Tryz.sizeOf4⟩
instance cks5 : TyS Tryz.prog 5 1 := ⟨Tryz.sizeOf5⟩
instance cks9 : TyS Tryz.prog 9 1 := ⟨Tryz.sizeOf9⟩
instance cks25 : TyS Tryz.prog 25 32 := ⟨Tryz.sizeOf25⟩
instance cks27 : TyS Tryz.prog 27 1 := ⟨Tryz.sizeOf27⟩
instance cks32 : TyS Tryz.prog 32 1 := ⟨Tryz.sizeOf32⟩
instance cks33 : TyS Tryz.prog 33 1 := ⟨Tryz.sizeOf33⟩
instance cks34 : TyS Tryz.prog 34 16 := ⟨Tryz.sizeOf34⟩
instance cks35 : TyS Tryz.prog 35 1 := ⟨Tryz.sizeOf35⟩
instance cks37 : TyS Tryz.prog 37 17 := ⟨Tryz.sizeOf37⟩
instance cks38 : TyS Tryz.prog 38 1 := ⟨Tryz.sizeOf38⟩
instance cks39 : TyS Tryz.prog 39 1 := ⟨Tryz.sizeOf39⟩
instance cks42 : TyS Tryz.prog 42 17 := ⟨Tryz.sizeOf42⟩
instance cks45 : TyS Tryz.prog 45 2 := ⟨Tryz.sizeOf45⟩
instance cks47 : TyS Tryz.prog 47 20 := ⟨Tryz.sizeOf47⟩
instance cks65 : TyS Tryz.prog 65 1 := ⟨Tryz.sizeOf65⟩
instance cks77 : TyS Tryz.prog 77 20 := ⟨Tryz.sizeOf77⟩
instance cks118 : TyS Tryz.prog 118 1 := ⟨Tryz.sizeOf118⟩
instance cks129 : TyS Tryz.prog 129 2 := ⟨Tryz.sizeOf129⟩
instance cks143 : TyS Tryz.prog 143 12 := ⟨Tryz.sizeOf143⟩
instance cks148 : TyS Tryz.prog 148 1 := ⟨Tryz.sizeOf148⟩
instance cks150 : TyS Tryz.prog 150 1 := ⟨Tryz.sizeOf150⟩
instance cks162 : TyS Tryz.prog 162 1 := ⟨Tryz.sizeOf162⟩
instance cks170 : TyS Tryz.prog 170 2 := ⟨Tryz.sizeOf170⟩
instance cks176 : TyS Tryz.prog 176 1 := ⟨Tryz.sizeOf176⟩
instance cks180 : TyS Tryz.prog 180 64 := ⟨Tryz.sizeOf180⟩
instance cks184 : TyS Tryz.prog 184 1 := ⟨Tryz.sizeOf184⟩
instance cks188 : TyS Tryz.prog 188 8 := ⟨Tryz.sizeOf188⟩
instance cks191 : TyS Tryz.prog 191 16 := ⟨Tryz.sizeOf191⟩
instance cks204 : TyS Tryz.prog 204 64 := ⟨Tryz.sizeOf204⟩
instance ckz3 : TyZ Tryz.prog 3 (Go.Value.int Go.IntKind.i64 0) := ⟨Tryz.zeroValue3⟩
instance ckz4 : TyZ Tryz.prog 4 (Go.Value.bool false) := ⟨Tryz.zeroValue4⟩
instance ckz5 : TyZ Tryz.prog 5 (Go.Value.int Go.IntKind.u8 0) := ⟨Tryz.zeroValue5⟩
instance ckz9 : TyZ Tryz.prog 9 (Go.Value.string { data := #[] }) := ⟨Tryz.zeroValue9⟩
instance ckz25 : TyZ Tryz.prog 25 (Go.Value.agg #[Go.Value.int Go.IntKind.u8 0, Go.Value.int Go.IntKind.u8 0, Go.Value.int Go.IntKind.u8 0, Go.Value.int Go.IntKind.u8 0, Go.Value.int Go.IntKind.u8 0, Go.Value.int Go.IntKind.u8 0, Go.Value.int Go.IntKind.u8 0, Go.Value.int Go.IntKind.u8 0, Go.Value.int Go.IntKind.u8 0, Go.Value.int Go.IntKind.u8 0, Go.Value.int Go.IntKind.u8 0, Go.Value.int Go.IntKind.u8 0, Go.Value.int Go.IntKind.u8 0, Go.Value.int Go.IntKind.u8 0, Go.Value.int Go.IntKind.u8 0, Go.Value.int Go.IntKind.u8 0, Go.Value.int Go.IntKind.u8 0, Go.Value.int Go.IntKind.u8 0, Go.Value.int Go.IntKind.u8 0, Go.Value.int Go.IntKind.u8 0, Go.Value.int Go.IntKind.u8 0, Go.Value.int Go.IntKind.u8 0, Go.Value.int Go.IntKind.u8 0, Go.Value.int Go.IntKind.u8 0, Go.Value.int Go.IntKind.u8 0, Go.Value.int Go.IntKind.u8 0, Go.Value.int Go.IntKind.u8 0, Go.Value.int Go.IntKind.u8 0, Go.Value.int Go.IntKind.u8 0, Go.Value.int Go.IntKind.u8 0, Go.Value.int Go.IntKind.u8 0, Go.Value.int Go.IntKind.u8 0]) := ⟨Tryz.zeroValue25⟩
instance ckz27 : TyZ Tryz.prog 27 (Go.Value.int Go.IntKind.i64 0) := ⟨Tryz.zeroValue27⟩
instance ckz32 : TyZ Tryz.prog 32 (Go.Value.int Go.IntKind.u64 0) := ⟨Tryz.zeroValue32⟩
instance ckz33 : TyZ Tryz.prog 33 (Go.Value.slice none 0 0) := ⟨Tryz.zeroValue33⟩
instance ckz34 : TyZ Tryz.prog 34 (Go.Value.agg #[Go.Value.int Go.IntKind.i64 0, Go.Value.int Go.IntKind.i64 0, Go.Value.int Go.IntKind.i64 0, Go.Value.int Go.IntKind.i64 0, Go.Value.int Go.IntKind.i64 0, Go.Value.int Go.IntKind.i64 0, Go.Value.int Go.IntKind.i64 0, Go.Value.int Go.IntKind.i64 0, Go.Value.int Go.IntKind.i64 0, Go.Value.int Go.IntKind.i64 0, Go.Value.int Go.IntKind.i64 0, Go.Value.int Go.IntKind.i64 0, Go.Value.int Go.IntKind.i64 0, Go.Value.int Go.IntKind.i64 0, Go.Value.int Go.IntKind.i64 0, Go.Value.int Go.IntKind.i64 0]) := ⟨Tryz.zeroValue34⟩
instance ckz35 : TyZ Tryz.prog 35 (Go.Value.slice none 0 0) := ⟨Tryz.zeroValue35⟩
instance ckz37 : TyZ Tryz.prog 37 (Go.Value.agg #[Go.Value.int Go.IntKind.i64 0, Go.Value.int Go.IntKind.i64 0, Go.Value.int Go.IntKind.i64 0, Go.Value.int Go.IntKind.i64 0, Go.Value.int Go.IntKind.i64 0, Go.Value.int Go.IntKind.i64 0, Go.Value.int Go.IntKind.i64 0, Go.Value.int Go.IntKind.i64 0, Go.Value.int Go.IntKind.i64 0, Go.Value.int Go.IntKind.i64 0, Go.Value.int Go.IntKind.i64 0, Go.Value.int Go.IntKind.i64 0, Go.Value.int Go.IntKind.i64 0, Go.Value.int Go.IntKind.i64 0, Go.Value.int Go.IntKind.i64 0, Go.Value.int Go.IntKind.i64 0, Go.Value.slice none 0 0]) := ⟨Tryz.zeroValue37⟩
instance ckz38 : TyZ Tryz.prog 38 (Go.Value.slice none 0 0) := ⟨Tryz.zeroValue38⟩
instance ckz39 : TyZ Tryz.prog 39 (Go.Value.slice none 0 0) := ⟨Tryz.zeroValue39⟩
instance ckz42 : TyZ Tryz.prog 42 (Go.Value.agg #[Go.Value.int Go.IntKind.i64 0, Go.Value.int Go.IntKind.i64 0, Go.Value.int Go.IntKind.i64 0, Go.Value.int Go.IntKind.i64 0, Go.Value.int Go.IntKind.i64 0, Go.Value.int Go.IntKind.i64 0, Go.Value.int Go.IntKind.i64 0, Go.Value.int Go.IntKind.i64 0, Go.Value.int Go.IntKind.i64 0, Go.Value.int Go.IntKind.i64 0, Go.Value.int Go.IntKind.i64 0, Go.Value.int Go.IntKind.i64 0, Go.Value.int Go.IntKind.i64 0, Go.Value.int Go.IntKind.i64 0, Go.Value.int Go.IntKind.i64 0, Go.Value.int Go.IntKind.i64 0, Go.Value.slice none 0 0]) := ⟨Tryz.zeroValue42⟩
instance ckz45 : TyZ Tryz.prog 45 (Go.Value.agg #[Go.Value.int Go.IntKind.i64 0, Go.Value.int Go.IntKind.i64 0]) := ⟨Tryz.zeroValue45⟩
instance ckz47 : TyZ Tryz.prog 47 (Go.Value.agg #[Go.Value.int Go.IntKind.i64 0, Go.Value.int Go.IntKind.i64 0, Go.Value.int Go.IntKind.i64 0, Go.Value.int Go.IntKind.i64 0, Go.Value.int Go.IntKind.i64 0, Go.Value.int Go.IntKind.i64 0, Go.Value.int Go.IntKind.i64 0, Go.Value.int Go.IntKind.i64 0, Go.Value.int Go.IntKind.i64 0, Go.Value.int Go.IntKind.i64 0, Go.Value.int Go.IntKind.i64 0, Go.Value.int Go.IntKind.i64 0, Go.Value.int Go.IntKind.i64 0, Go.Value.int Go.IntKind.i64 0, Go.Value.int Go.IntKind.i64 0, Go.Value.int Go.IntKind.i64 0, Go.Value.int Go.IntKind.i64 0, Go.Value.int Go.IntKind.i64 0, Go.Value.slice none 0 0, Go.Value.slice none 0 0]) := ⟨Tryz.zeroValue47⟩
instance ckz65 : TyZ Tryz.prog 65 (Go.Value.slice none 0 0) := ⟨Tryz.zeroValue65⟩
instance ckz77 : TyZ Tryz.prog 77 (Go.Value.agg #[Go.Value.int Go.IntKind.i64 0, Go.Value.int Go.IntKind.i64 0, Go.Value.int Go.IntKind.i64 0, Go.Value.int Go.IntKind.i64 0, Go.Value.int Go.IntKind.i64 0, Go.Value.int Go.IntKind.i64 0, Go.Value.int Go.IntKind.i64 0, Go.Value.int Go.IntKind.i64 0, Go.Value.int Go.IntKind.i64 0, Go.Value.int Go.IntKind.i64 0, Go.Value.int Go.IntKind.i64 0, Go.Value.int Go.IntKind.i64 0, Go.Value.int Go.IntKind.i64 0, Go.Value.int Go.IntKind.i64 0, Go.Value.int Go.IntKind.i64 0, Go.Value.int Go.IntKind.i64 0, Go.Value.int Go.IntKind.i64 0, Go.Value.int Go.IntKind.i64 0, Go.Value.slice none 0 0, Go.Value.string { data := #[] }]) := ⟨Tryz.zeroValue77⟩
instance ckz118 : TyZ Tryz.prog 118 (Go.Value.pointer none) := ⟨Tryz.zeroValue118⟩
instance ckz129 : TyZ Tryz.prog 129 (Go.Value.agg #[Go.Value.slice none 0 0, Go.Value.bool false]) := ⟨Tryz.zeroValue129⟩
instance ckz143 : TyZ Tryz.prog 143 (Go.Value.agg #[Go.Value.int Go.IntKind.u8 0, Go.Value.int Go.IntKind.u8 0, Go.Value.int Go.IntKind.u8 0, Go.Value.int Go.IntKind.u8 0, Go.Value.int Go.IntKind.u8 0, Go.Value.int Go.IntKind.u8 0, Go.Value.int Go.IntKind.u8 0, Go.Value.int Go.IntKind.u8 0, Go.Value.int Go.IntKind.u8 0, Go.Value.int Go.IntKind.u8 0, Go.Value.int Go.IntKind.u8 0, Go.Value.int Go.IntKind.u8 0]) := ⟨Tryz.zeroValue143⟩
instance ckz148 : TyZ Tryz.prog 148 (Go.Value.pointer none) := ⟨Tryz.zeroValue148⟩
instance ckz150 : TyZ Tryz.prog 150 (Go.Value.pointer none) := ⟨Tryz.zeroValue150⟩
instance ckz162 : TyZ Tryz.prog 162 (Go.Value.int Go.IntKind.u32 0) := ⟨Tryz.zeroValue162⟩
instance ckz170 : TyZ Tryz.prog 170 (Go.Value.agg #[Go.Value.slice none 0 0, Go.Value.int Go.IntKind.i64 0]) := ⟨Tryz.zeroValue170⟩
instance ckz176 : TyZ Tryz.prog 176 (Go.Value.slice none 0 0) := ⟨Tryz.zeroValue176⟩
instance ckz180 : TyZ Tryz.prog 180 (Go.Value.agg #[Go.Value.int Go.IntKind.u8 0, Go.Value.int Go.IntKind.u8 0, Go.Value.int Go.IntKind.u8 0, Go.Value.int Go.IntKind.u8 0, Go.Value.int Go.IntKind.u8 0, Go.Value.int Go.IntKind.u8 0, Go.Value.int Go.IntKind.u8 0, Go.Value.int Go.IntKind.u8 0, Go.Value.int Go.IntKind.u8 0, Go.Value.int Go.IntKind.u8 0, Go.Value.int Go.IntKind.u8 0, Go.Value.int Go.IntKind.u8 0, Go.Value.int Go.IntKind.u8 0, Go.Value.int Go.IntKind.u8 0, Go.Value.int Go.IntKind.u8 0, Go.Value.int Go.IntKind.u8 0, Go.Value.int Go.IntKind.u8 0, Go.Value.int Go.IntKind.u8 0, Go.Value.int Go.IntKind.u8 0, Go.Value.int Go.IntKind.u8 0, Go.Value.int Go.IntKind.u8 0, Go.Value.int Go.IntKind.u8 0, Go.Value.int Go.IntKind.u8 0, Go.Value.int Go.IntKind.u8 0, Go.Value.int Go.IntKind.u8 0, Go.Value.int Go.IntKind.u8 0, Go.Value.int Go.IntKind.u8 0, Go.Value.int Go.IntKind.u8 0, Go.Value.int Go.IntKind.u8 0, Go.Value.int Go.IntKind.u8 0, Go.Value.int Go.IntKind.u8 0, Go.Value.int Go.IntKind.u8 0, Go.Value.int Go.IntKind.u8 0, Go.Value.int Go.IntKind.u8 0, Go.Value.int Go.IntKind.u8 0, Go.Value.int Go.IntKind.u8 0, Go.Value.int Go.IntKind.u8 0, Go.Value.int Go.IntKind.u8 0, Go.Value.int Go.IntKind.u8 0, Go.Value.int Go.IntKind.u8 0, Go.Value.int Go.IntKind.u8 0, Go.Value.int Go.IntKind.u8 0, Go.Value.int Go.IntKind.u8 0, Go.Value.int Go.IntKind.u8 0, Go.Value.int Go.IntKind.u8 0, Go.Value.int Go.IntKind.u8 0, Go.Value.int Go.IntKind.u8 0, Go.Value.int Go.IntKind.u8 0, Go.Value.int Go.IntKind.u8 0, Go.Value.int Go.IntKind.u8 0, Go.Value.int Go.IntKind.u8 0, Go.Value.int Go.IntKind.u8 0, Go.Value.int Go.IntKind.u8 0, Go.Value.int Go.IntKind.u8 0, Go.Value.int Go.IntKind.u8 0, Go.Value.int Go.IntKind.u8 0, Go.Value.int Go.IntKind.u8 0, Go.Value.int Go.IntKind.u8 0, Go.Value.int Go.IntKind.u8 0, Go.Value.int Go.IntKind.u8 0, Go.Value.int Go.IntKind.u8 0, Go.Value.int Go.IntKind.u8 0, Go.Value.int Go.IntKind.u8 0, Go.Value.int Go.IntKind.u8 0]) := ⟨Tryz.zeroValue180⟩
instance ckz184 : TyZ Tryz.prog 184 (Go.Value.int Go.IntKind.u64 0) := ⟨Tryz.zeroValue184⟩
instance ckz188 : TyZ Tryz.prog 188 (Go.Value.agg #[Go.Value.int Go.IntKind.u32 0, Go.Value.int Go.IntKind.u32 0, Go.Value.int Go.IntKind.u32 0, Go.Value.int Go.IntKind.u32 0, Go.Value.int Go.IntKind.u32 0, Go.Value.int Go.IntKind.u32 0, Go.Value.int Go.IntKind.u32 0, Go.Value.int Go.IntKind.u32 0]) := ⟨Tryz.zeroValue188⟩
instance ckz191 : TyZ Tryz.prog 191 (Go.Value.agg #[Go.Value.int Go.IntKind.u32 0, Go.Value.int Go.IntKind.u32 0, Go.Value.int Go.IntKind.u32 0, Go.Value.int Go.IntKind.u32 0, Go.Value.int Go.IntKind.u32 0, Go.Value.int Go.IntKind.u32 0, Go.Value.int Go.IntKind.u32 0, Go.Value.int Go.IntKind.u32 0, Go.Value.int Go.IntKind.u32 0, Go.Value.int Go.IntKind.u32 0, Go.Value.int Go.IntKind.u32 0, Go.Value.int Go.IntKind.u32 0, Go.Value.int Go.IntKind.u32 0, Go.Value.int Go.IntKind.u32 0, Go.Value.int Go.IntKind.u32 0, Go.Value.int Go.IntKind.u32 0]) := ⟨Tryz.zeroValue191⟩
instance ckz204 : TyZ Tryz.prog 204 (Go.Value.agg #[Go.Value.int Go.IntKind.u32 0, Go.Value.int Go.IntKind.u32 0, Go.Value.int Go.IntKind.u32 0, Go.Value.int Go.IntKind.u32 0, Go.Value.int Go.IntKind.u32 0, Go.Value.int Go.IntKind.u32 0, Go.Value.int Go.IntKind.u32 0, Go.Value.int Go.IntKind.u32 0, Go.Value.int Go.IntKind.u32 0, Go.Value.int Go.IntKind.u32 0, Go.Value.int Go.IntKind.u32 0, Go.Value.int Go.IntKind.u32 0, Go.Value.int Go.IntKind.u32 0, Go.Value.int Go.IntKind.u32 0, Go.Value.int Go.IntKind.u32 0, Go.Value.int Go.IntKind.u32 0, Go.Value.int Go.IntKind.u32 0, Go.Value.int Go.IntKind.u32 0, Go.Value.int Go.IntKind.u32 0, Go.Value.int Go.IntKind.u32 0, Go.Value.int Go.IntKind.u32 0, Go.Value.int Go.IntKind.u32 0, Go.Value.int Go.IntKind.u32 0, Go.Value.int Go.IntKind.u32 0, Go.Value.int Go.IntKind.u32 0, Go.Value.int Go.IntKind.u32 0, Go.Value.int Go.IntKind.u32 0, Go.Value.int Go.IntKind.u32 0, Go.Value.int Go.IntKind.u32 0, Go.Value.int Go.IntKind.u32 0, Go.Value.int Go.IntKind.u32 0, Go.Value.int Go.IntKind.u32 0, Go.Value.int Go.IntKind.u32 0, Go.Value.int Go.IntKind.u32 0, Go.Value.int Go.IntKind.u32 0, Go.Value.int Go.IntKind.u32 0, Go.Value.int Go.IntKind.u32 0, Go.Value.int Go.IntKind.u32 0, Go.Value.int Go.IntKind.u32 0, Go.Value.int Go.IntKind.u32 0, Go.Value.int Go.IntKind.u32 0, Go.Value.int Go.IntKind.u32 0, Go.Value.int Go.IntKind.u32 0, Go.Value.int Go.IntKind.u32 0, Go.Value.int Go.IntKind.u32 0, Go.Value.int Go.IntKind.u32 0, Go.Value.int Go.IntKind.u32 0, Go.Value.int Go.IntKind.u32 0, Go.Value.int Go.IntKind.u32 0, Go.Value.int Go.IntKind.u32 0, Go.Value.int Go.IntKind.u32 0, Go.Value.int Go.IntKind.u32 0, Go.Value.int Go.IntKind.u32 0, Go.Value.int Go.IntKind.u32 0, Go.Value.int Go.IntKind.u32 0, Go.Value.int Go.IntKind.u32 0, Go.Value.int Go.IntKind.u32 0, Go.Value.int Go.IntKind.u32 0, Go.Value.int Go.IntKind.u32 0, Go.Value.int Go.IntKind.u32 0, Go.Value.int Go.IntKind.u32 0, Go.Value.int Go.IntKind.u32 0, Go.Value.int Go.IntKind.u32 0, Go.Value.int Go.IntKind.u32 0]) := ⟨Tryz.zeroValue204⟩
instance ckb3 : TyB Tryz.prog 3 (Go.Value.int Go.IntKind.i64 0) 1 8 := ⟨by kernel_rfl⟩
instance ckb4 : TyB Tryz.prog 4 (Go.Value.bool false) 1 1 := ⟨by kernel_rfl⟩
instance ckb5 : TyB Tryz.prog 5 (Go.Value.int Go.IntKind.u8 0) 1 1 := ⟨by kernel_rfl⟩
instance ckb9 : TyB Tryz.prog 9 (Go.Value.string { data := #[] }) 1 16 := ⟨by kernel_rfl⟩
instance ckb25 : TyB Tryz.prog 25 (Go.Value.agg #[Go.Value.int Go.IntKind.u8 0, Go.Value.int Go.IntKind.u8 0, Go.Value.int Go.IntKind.u8 0, Go.Value.int Go.IntKind.u8 0, Go.Value.int Go.IntKind.u8 0, Go.Value.int Go.IntKind.u8 0, Go.Value.int Go.IntKind.u8 0, Go.Value.int Go.IntKind.u8 0, Go.Value.int Go.IntKind.u8 0, Go.Value.int Go.IntKind.u8 0, Go.Value.int Go.IntKind.u8 0, Go.Value.int Go.IntKind.u8 0, Go.Value.int Go.IntKind.u8 0, Go.Value.int Go.IntKind.u8 0, Go.Value.int Go.IntKind.u8 0, Go.Value.int Go.IntKind.u8 0, Go.Value.int Go.IntKind.u8 0, Go.Value.int Go.IntKind.u8 0, Go.Value.int Go.IntKind.u8 0, Go.Value.int Go.IntKind.u8 0, Go.Value.int Go.IntKind.u8 0, Go.Value.int Go.IntKind.u8 0, Go.Value.int Go.IntKind.u8 0, Go.Value.int Go.IntKind.u8 0, Go.Value.int Go.IntKind.u8 0, Go.Value.int Go.IntKind.u8 0, Go.Value.int Go.IntKind.u8 0, Go.Value.int Go.IntKind.u8 0, Go.Value.int Go.IntKind.u8 0, Go.Value.int Go.IntKind.u8 0, Go.Value.int Go.IntKind.u8 0, Go.Value.int Go.IntKind.u8 0]) 32 32 := ⟨by kernel_rfl⟩
instance ckb27 : TyB Tryz.prog 27 (Go.Value.int Go.IntKind.i64 0) 1 8 := ⟨by kernel_rfl⟩
instance ckb32 : TyB Tryz.prog 32 (Go.Value.int Go.IntKind.u64 0) 1 8 := ⟨by kernel_rfl⟩
instance ckb33 : TyB Tryz.prog 33 (Go.Value.slice none 0 0) 1 24 := ⟨by kernel_rfl⟩
instance ckb34 : TyB Tryz.prog 34 (Go.Value.agg #[Go.Value.int Go.IntKind.i64 0, Go.Value.int Go.IntKind.i64 0, Go.Value.int Go.IntKind.i64 0, Go.Value.int Go.IntKind.i64 0, Go.Value.int Go.IntKind.i64 0, Go.Value.int Go.IntKind.i64 0, Go.Value.int Go.IntKind.i64 0, Go.Value.int Go.IntKind.i64 0, Go.Value.int Go.IntKind.i64 0, Go.Value.int Go.IntKind.i64 0, Go.Value.int Go.IntKind.i64 0, Go.Value.int Go.IntKind.i64 0, Go.Value.int Go.IntKind.i64 0, Go.Value.int Go.IntKind.i64 0, Go.Value.int Go.IntKind.i64 0, Go.Value.int Go.IntKind.i64 0]) 16 128 := ⟨by kernel_rfl⟩
instance ckb35 : TyB Tryz.prog 35 (Go.Value.slice none 0 0) 1 24 := ⟨by kernel_rfl⟩
instance ckb37 : TyB Tryz.prog 37 (Go.Value.agg #[Go.Value.int Go.IntKind.i64 0, Go.Value.int Go.IntKind.i64 0, Go.Value.int Go.IntKind.i64 0, Go.Value.int Go.IntKind.i64 0, Go.Value.int Go.IntKind.i64 0, Go.Value.int Go.IntKind.i64 0, Go.Value.int Go.IntKind.i64 0, Go.Value.int Go.IntKind.i64 0, Go.Value.int Go.IntKind.i64 0, Go.Value.int Go.IntKind.i64 0, Go.Value.int Go.IntKind.i64 0, Go.Value.int Go.IntKind.i64 0, Go.Value.int Go.IntKind.i64 0, Go.Value.int Go.IntKind.i64 0, Go.Value.int Go.IntKind.i64 0, Go.Value.int Go.IntKind.i64 0, Go.Value.slice none 0 0]) 17 152 := ⟨by kernel_rfl⟩
instance ckb38 : TyB Tryz.prog 38 (Go.Value.slice none 0 0) 1 24 := ⟨by kernel_rfl⟩
instance ckb39 : TyB Tryz.prog 39 (Go.Value.slice none 0 0) 1 24 := ⟨by kernel_rfl⟩
instance ckb42 : TyB Tryz.prog 42 (Go.Value.agg #[Go.Value.int Go.IntKind.i64 0, Go.Value.int Go.IntKind.i64 0, Go.Value.int Go.IntKind.i64 0, Go.Value.int Go.IntKind.i64 0, Go.Value.int Go.IntKind.i64 0, Go.Value.int Go.IntKind.i64 0, Go.Value.int Go.IntKind.i64 0, Go.Value.int Go.IntKind.i64 0, Go.Value.int Go.IntKind.i64 0, Go.Value.int Go.IntKind.i64 0, Go.Value.int Go.IntKind.i64 0, Go.Value.int Go.IntKind.i64 0, Go.Value.int Go.IntKind.i64 0, Go.Value.int Go.IntKind.i64 0, Go.Value.int Go.IntKind.i64 0, Go.Value.int Go.IntKind.i64 0, Go.Value.slice none 0 0]) 17 152 := ⟨by kernel_rfl⟩
instance ckb45 : TyB Tryz.prog 45 (Go.Value.agg #[Go.Value.int Go.IntKind.i64 0, Go.Value.int Go.IntKind.i64 0]) 2 16 := ⟨by kernel_rfl⟩
instance ckb47 : TyB Tryz.prog 47 (Go.Value.agg #[Go.Value.int Go.IntKind.i64 0, Go.Value.int Go.IntKind.i64 0, Go.Value.int Go.IntKind.i64 0, Go.Value.int Go.IntKind.i64 0, Go.Value.int Go.IntKind.i64 0, Go.Value.int Go.IntKind.i64 0, Go.Value.int Go.IntKind.i64 0, Go.Value.int Go.IntKind.i64 0, Go.Value.int Go.IntKind.i64 0, Go.Value.int Go.IntKind.i64 0, Go.Value.int Go.IntKind.i64 0, Go.Value.int Go.IntKind.i64 0, Go.Value.int Go.IntKind.i64 0, Go.Value.int Go.IntKind.i64 0, Go.Value.int Go.IntKind.i64 0, Go.Value.int Go.IntKind.i64 0, Go.Value.int Go.IntKind.i64 0, Go.Value.int Go.IntKind.i64 0, Go.Value.slice none 0 0, Go.Value.slice none 0 0]) 20 192 := ⟨by kernel_rfl⟩
instance ckb65 : TyB Tryz.prog 65 (Go.Value.slice none 0 0) 1 24 := ⟨by kernel_rfl⟩
instance ckb77 : TyB Tryz.prog 77 (Go.Value.agg #[Go.Value.int Go.IntKind.i64 0, Go.Value.int Go.IntKind.i64 0, Go.Value.int Go.IntKind.i64 0, Go.Value.int Go.IntKind.i64 0, Go.Value.int Go.IntKind.i64 0, Go.Value.int Go.IntKind.i64 0, Go.Value.int Go.IntKind.i64 0, Go.Value.int Go.IntKind.i64 0, Go.Value.int Go.IntKind.i64 0, Go.Value.int Go.IntKind.i64 0, Go.Value.int Go.IntKind.i64 0, Go.Value.int Go.IntKind.i64 0, Go.Value.int Go.IntKind.i64 0, Go.Value.int Go.IntKind.i64 0, Go.Value.int Go.IntKind.i64 0, Go.Value.int Go.IntKind.i64 0, Go.Value.int Go.IntKind.i64 0, Go.Value.int Go.IntKind.i64 0, Go.Value.slice none 0 0, Go.Value.string { data := #[] }]) 20 184 := ⟨by kernel_rfl⟩
instance ckb118 : TyB Tryz.prog 118 (Go.Value.pointer none) 1 8 := ⟨by kernel_rfl⟩
instance ckb129 : TyB Tryz.prog 129 (Go.Value.agg #[Go.Value.slice none 0 0, Go.Value.bool false]) 2 32 := ⟨by kernel_rfl⟩
instance ckb143 : TyB Tryz.prog 143 (Go.Value.agg #[Go.Value.int Go.IntKind.u8 0, Go.Value.int Go.IntKind.u8 0, Go.Value.int Go.IntKind.u8 0, Go.Value.int Go.IntKind.u8 0, Go.Value.int Go.IntKind.u8 0, Go.Value.int Go.IntKind.u8 0, Go.Value.int Go.IntKind.u8 0, Go.Value.int Go.IntKind.u8 0, Go.Value.int Go.IntKind.u8 0, Go.Value.int Go.IntKind.u8 0, Go.Value.int Go.IntKind.u8 0, Go.Value.int Go.IntKind.u8 0]) 12 12 := ⟨by kernel_rfl⟩
instance ckb148 : TyB Tryz.prog 148 (Go.Value.pointer none) 1 8 := ⟨by kernel_rfl⟩
instance ckb150 : TyB Tryz.prog 150 (Go.Value.pointer none) 1 8 := ⟨by kernel_rfl⟩
instance ckb162 : TyB Tryz.prog 162 (Go.Value.int Go.IntKind.u32 0) 1 4 := ⟨by kernel_rfl⟩
instance ckb170 : TyB Tryz.prog 170 (Go.Value.agg #[Go.Value.slice none 0 0, Go.Value.int Go.IntKind.i64 0]) 2 32 := ⟨by kernel_rfl⟩
instance ckb176 : TyB Tryz.prog 176 (Go.Value.slice none 0 0) 1 24 := ⟨by kernel_rfl⟩
instance ckb180 : TyB Tryz.prog 180 (Go.Value.agg #[Go.Value.int Go.IntKind.u8 0, Go.Value.int Go.IntKind.u8 0, Go.Value.int Go.IntKind.u8 0, Go.Value.int Go.IntKind.u8 0, Go.Value.int Go.IntKind.u8 0, Go.Value.int Go.IntKind.u8 0, Go.Value.int Go.IntKind.u8 0, Go.Value.int Go.IntKind.u8 0, Go.Value.int Go.IntKind.u8 0, Go.Value.int Go.IntKind.u8 0, Go.Value.int Go.IntKind.u8 0, Go.Value.int Go.IntKind.u8 0, Go.Value.int Go.IntKind.u8 0, Go.Value.int Go.IntKind.u8 0, Go.Value.int Go.IntKind.u8 0, Go.Value.int Go.IntKind.u8 0, Go.Value.int Go.IntKind.u8 0, Go.Value.int Go.IntKind.u8 0, Go.Value.int Go.IntKind.u8 0, Go.Value.int Go.IntKind.u8 0, Go.Value.int Go.IntKind.u8 0, Go.Value.int Go.IntKind.u8 0, Go.Value.int Go.IntKind.u8 0, Go.Value.int Go.IntKind.u8 0, Go.Value.int Go.IntKind.u8 0, Go.Value.int Go.IntKind.u8 0, Go.Value.int Go.IntKind.u8 0, Go.Value.int Go.IntKind.u8 0, Go.Value.int Go.IntKind.u8 0, Go.Value.int Go.IntKind.u8 0, Go.Value.int Go.IntKind.u8 0, Go.Value.int Go.IntKind.u8 0, Go.Value.int Go.IntKind.u8 0, Go.Value.int Go.IntKind.u8 0, Go.Value.int Go.IntKind.u8 0, Go.Value.int Go.IntKind.u8 0, Go.Value.int Go.IntKind.u8 0, Go.Value.int Go.IntKind.u8 0, Go.Value.int Go.IntKind.u8 0, Go.Value.int Go.IntKind.u8 0, Go.Value.int Go.IntKind.u8 0, Go.Value.int Go.IntKind.u8 0, Go.Value.int Go.IntKind.u8 0, Go.Value.int Go.IntKind.u8 0, Go.Value.int Go.IntKind.u8 0, Go.Value.int Go.IntKind.u8 0, Go.Value.int Go.IntKind.u8 0, Go.Value.int Go.IntKind.u8 0, Go.Value.int Go.IntKind.u8 0, Go.Value.int Go.IntKind.u8 0, Go.Value.int Go.IntKind.u8 0, Go.Value.int Go.IntKind.u8 0, Go.Value.int Go.IntKind.u8 0, Go.Value.int Go.IntKind.u8 0, Go.Value.int Go.IntKind.u8 0, Go.Value.int Go.IntKind.u8 0, Go.Value.int Go.IntKind.u8 0, Go.Value.int Go.IntKind.u8 0, Go.Value.int Go.IntKind.u8 0, Go.Value.int Go.IntKind.u8 0, Go.Value.int Go.IntKind.u8 0, Go.Value.int Go.IntKind.u8 0, Go.Value.int Go.IntKind.u8 0, Go.Value.int Go.IntKind.u8 0]) 64 64 := ⟨by kernel_rfl⟩
instance ckb184 : TyB Tryz.prog 184 (Go.Value.int Go.IntKind.u64 0) 1 8 := ⟨by kernel_rfl⟩
instance ckb188 : TyB Tryz.prog 188 (Go.Value.agg #[Go.Value.int Go.IntKind.u32 0, Go.Value.int Go.IntKind.u32 0, Go.Value.int Go.IntKind.u32 0, Go.Value.int Go.IntKind.u32 0, Go.Value.int Go.IntKind.u32 0, Go.Value.int Go.IntKind.u32 0, Go.Value.int Go.IntKind.u32 0, Go.Value.int Go.IntKind.u32 0]) 8 32 := ⟨by kernel_rfl⟩
instance ckb191 : TyB Tryz.prog 191 (Go.Value.agg #[Go.Value.int Go.IntKind.u32 0, Go.Value.int Go.IntKind.u32 0, Go.Value.int Go.IntKind.u32 0, Go.Value.int Go.IntKind.u32 0, Go.Value.int Go.IntKind.u32 0, Go.Value.int Go.IntKind.u32 0, Go.Value.int Go.IntKind.u32 0, Go.Value.int Go.IntKind.u32 0, Go.Value.int Go.IntKind.u32 0, Go.Value.int Go.IntKind.u32 0, Go.Value.int Go.IntKind.u32 0, Go.Value.int Go.IntKind.u32 0, Go.Value.int Go.IntKind.u32 0, Go.Value.int Go.IntKind.u32 0, Go.Value.int Go.IntKind.u32 0, Go.Value.int Go.IntKind.u32 0]) 16 64 := ⟨by kernel_rfl⟩
instance ckb204 : TyB Tryz.prog 204 (Go.Value.agg #[Go.Value.int Go.IntKind.u32 0, Go.Value.int Go.IntKind.u32 0, Go.Value.int Go.IntKind.u32 0, Go.Value.int Go.IntKind.u32 0, Go.Value.int Go.IntKind.u32 0, Go.Value.int Go.IntKind.u32 0, Go.Value.int Go.IntKind.u32 0, Go.Value.int Go.IntKind.u32 0, Go.Value.int Go.IntKind.u32 0, Go.Value.int Go.IntKind.u32 0, Go.Value.int Go.IntKind.u32 0, Go.Value.int Go.IntKind.u32 0, Go.Value.int Go.IntKind.u32 0, Go.Value.int Go.IntKind.u32 0, Go.Value.int Go.IntKind.u32 0, Go.Value.int Go.IntKind.u32 0, Go.Value.int Go.IntKind.u32 0, Go.Value.int Go.IntKind.u32 0, Go.Value.int Go.IntKind.u32 0, Go.Value.int Go.IntKind.u32 0, Go.Value.int Go.IntKind.u32 0, Go.Value.int Go.IntKind.u32 0, Go.Value.int Go.IntKind.u32 0, Go.Value.int Go.IntKind.u32 0, Go.Value.int Go.IntKind.u32 0, Go.Value.int Go.IntKind.u32 0, Go.Value.int Go.IntKind.u32 0, Go.Value.int Go.IntKind.u32 0, Go.Value.int Go.IntKind.u32 0, Go.Value.int Go.IntKind.u32 0, Go.Value.int Go.IntKind.u32 0, Go.Value.int Go.IntKind.u32 0, Go.Value.int Go.IntKind.u32 0, Go.Value.int Go.IntKind.u32 0, Go.Value.int Go.IntKind.u32 0, Go.Value.int Go.IntKind.u32 0, Go.Value.int Go.IntKind.u32 0, Go.Value.int Go.IntKind.u32 0, Go.Value.int Go.IntKind.u32 0, Go.Value.int Go.IntKind.u32 0, Go.Value.int Go.IntKind.u32 0, Go.Value.int Go.IntKind.u32 0, Go.Value.int Go.IntKind.u32 0, Go.Value.int Go.IntKind.u32 0, Go.Value.int Go.IntKind.u32 0, Go.Value.int Go.IntKind.u32 0, Go.Value.int Go.IntKind.u32 0, Go.Value.int Go.IntKind.u32 0, Go.Value.int Go.IntKind.u32 0, Go.Value.int Go.IntKind.u32 0, Go.Value.int Go.IntKind.u32 0, Go.Value.int Go.IntKind.u32 0, Go.Value.int Go.IntKind.u32 0, Go.Value.int Go.IntKind.u32 0, Go.Value.int Go.IntKind.u32 0, Go.Value.int Go.IntKind.u32 0, Go.Value.int Go.IntKind.u32 0, Go.Value.int Go.IntKind.u32 0, Go.Value.int Go.IntKind.u32 0, Go.Value.int Go.IntKind.u32 0, Go.Value.int Go.IntKind.u32 0, Go.Value.int Go.IntKind.u32 0, Go.Value.int Go.IntKind.u32 0, Go.Value.int Go.IntKind.u32 0]) 64 256 := ⟨by kernel_rfl⟩
instance ckp37 : TyP Tryz.prog 37 [(0, 16), (16, 1)] := ⟨_, Tryz.underlying37, fun w => by simp [Tryz.sizeOf34, Tryz.sizeOf35]⟩
instance ckp42 : TyP Tryz.prog 42 [(0, 16), (16, 1)] := ⟨_, Tryz.underlying42, fun w => by simp [Tryz.sizeOf34, Tryz.sizeOf35]⟩
instance ckp45 : TyP Tryz.prog 45 [(0, 1), (1, 1)] := ⟨_, Tryz.underlying45, fun w => by simp [Tryz.sizeOf3]⟩
instance ckp47 : TyP Tryz.prog 47 [(0, 2), (2, 17), (19, 1)] := ⟨_, Tryz.underlying47, fun w => by simp [Tryz.sizeOf33, Tryz.sizeOf42, Tryz.sizeOf45]⟩
instance ckp77 : TyP Tryz.prog 77 [(0, 2), (2, 17), (19, 1)] := ⟨_, Tryz.underlying77, fun w => by simp [Tryz.sizeOf9, Tryz.sizeOf37, Tryz.sizeOf45]⟩
instance ckp129 : TyP Tryz.prog 129 [(0, 1), (1, 1)] := ⟨_, Tryz.underlying129, fun w => by simp [Tryz.sizeOf4, Tryz.sizeOf33]⟩
instance ckp170 : TyP Tryz.prog 170 [(0, 1), (1, 1)] := ⟨_, Tryz.underlying170, fun w => by simp [Tryz.sizeOf27, Tryz.sizeOf33]⟩
instance ckg180 : TyG Tryz.prog 180 := ⟨Tryz.eqGuardType180⟩
instance ckg34 : TyG Tryz.prog 34 := ⟨Tryz.eqGuardType34⟩
instance ckg204 : TyG Tryz.prog 204 := ⟨Tryz.eqGuardType204⟩
instance ckg45 : TyG Tryz.prog 45 := ⟨Tryz.eqGuardType45⟩
instance ckg37 : TyG Tryz.prog 37 := ⟨Tryz.eqGuardType37⟩
instance ckg170 : TyG Tryz.prog 170 := ⟨Tryz.eqGuardType170⟩
instance ckg42 : TyG Tryz.prog 42 := ⟨Tryz.eqGuardType42⟩
instance ckg129 : TyG Tryz.prog 129 := ⟨Tryz.eqGuardType129⟩
instance ckg25 : TyG Tryz.prog 25 := ⟨Tryz.eqGuardType25⟩
instance ckg143 : TyG Tryz.prog 143 := ⟨Tryz.eqGuardType143⟩
instance ckg47 : TyG Tryz.prog 47 := ⟨Tryz.eqGuardType47⟩
instance ckg191 : TyG Tryz.prog 191 := ⟨Tryz.eqGuardType191⟩
instance ckg77 : TyG Tryz.prog 77 := ⟨Tryz.eqGuardType77⟩
instance ckg188 : TyG Tryz.prog 188 := ⟨Tryz.eqGuardType188⟩
end Go.Proofs.YtaofgcahmfailaaGreatDoor
end

section
namespace Go.Proofs.YtaofgcahmfailaaGreatDoor
open Go Go.Ck
instance cku22 : TyU Tryz.prog 22 (Go.TypeDesc.slice 41) := ⟨Tryz.underlying22⟩
instance cku23 : TyU Tryz.prog 23 (Go.TypeDesc.pointer 99) := ⟨Tryz.underlying23⟩
instance cku26 : TyU Tryz.prog 26 (Go.TypeDesc.pointer 84) := ⟨Tryz.underlying26⟩
instance cku31 : TyU Tryz.prog 31 (Go.TypeDesc.array 3 3) := ⟨Tryz.underlying31⟩
instance ckf41_0 : TyF Tryz.prog 41 0 0 3 1 := ⟨_, _, Tryz.underlying41, rfl, rfl, rfl, Tryz.sizeOf3⟩
instance ckf41_1 : TyF Tryz.prog 41 1 1 3 1 := ⟨_, _, Tryz.underlying41, rfl, rfl, rfl, Tryz.sizeOf3⟩
instance ckf41_2 : TyF Tryz.prog 41 2 2 3 1 := ⟨_, _, Tryz.underlying41, rfl, rfl, rfl, Tryz.sizeOf3⟩
instance ckf41_3 : TyF Tryz.prog 41 3 3 33 1 := ⟨_, _, Tryz.underlying41, rfl, rfl, rfl, Tryz.sizeOf33⟩
instance ckf41_4 : TyF Tryz.prog 41 4 4 4 1 := ⟨_, _, Tryz.underlying41, rfl, rfl, rfl, Tryz.sizeOf4⟩
instance ckf41_5 : TyF Tryz.prog 41 5 5 37 17 := ⟨_, _, Tryz.underlying41, rfl, rfl, rfl, Tryz.sizeOf37⟩
instance ckf41_6 : TyF Tryz.prog 41 6 22 38 1 := ⟨_, _, Tryz.underlying41, rfl, rfl, rfl, Tryz.sizeOf38⟩
instance ckf41_7 : TyF Tryz.prog 41 7 23 3 1 := ⟨_, _, Tryz.underlying41, rfl, rfl, rfl, Tryz.sizeOf3⟩
instance ckf41_8 : TyF Tryz.prog 41 8 24 39 1 := ⟨_, _, Tryz.underlying41, rfl, rfl, rfl, Tryz.sizeOf39⟩
instance cku43 : TyU Tryz.prog 43 (Go.TypeDesc.array 32 5) := ⟨Tryz.underlying43⟩
instance cku54 : TyU Tryz.prog 54 (Go.TypeDesc.array 2 26) := ⟨Tryz.underlying54⟩
instance cku56 : TyU Tryz.prog 56 (Go.TypeDesc.array 2 55) := ⟨Tryz.underlying56⟩
instance ckf58_0 : TyF Tryz.prog 58 0 0 23 1 := ⟨_, _, Tryz.underlying58, rfl, rfl, rfl, Tryz.sizeOf23⟩
instance ckf58_1 : TyF Tryz.prog 58 1 1 54 2 := ⟨_, _, Tryz.underlying58, rfl, rfl, rfl, Tryz.sizeOf54⟩
instance ckf58_2 : TyF Tryz.prog 58 2 3 56 2 := ⟨_, _, Tryz.underlying58, rfl, rfl, rfl, Tryz.sizeOf56⟩
instance ckf58_3 : TyF Tryz.prog 58 3 5 39 1 := ⟨_, _, Tryz.underlying58, rfl, rfl, rfl, Tryz.sizeOf39⟩
instance cku62 : TyU Tryz.prog 62 (Go.TypeDesc.slice 71) := ⟨Tryz.underlying62⟩
instance ckf67_0 : TyF Tryz.prog 67 0 0 45 2 := ⟨_, _, Tryz.underlying67, rfl, rfl, rfl, Tryz.sizeOf45⟩
instance ckf67_1 : TyF Tryz.prog 67 1 2 3 1 := ⟨_, _, Tryz.underlying67, rfl, rfl, rfl, Tryz.sizeOf3⟩
instance ckf67_2 : TyF Tryz.prog 67 2 3 37 17 := ⟨_, _, Tryz.underlying67, rfl, rfl, rfl, Tryz.sizeOf37⟩
instance ckf67_3 : TyF Tryz.prog 67 3 20 4 1 := ⟨_, _, Tryz.underlying67, rfl, rfl, rfl, Tryz.sizeOf4⟩
instance ckf67_4 : TyF Tryz.prog 67 4 21 9 1 := ⟨_, _, Tryz.underlying67, rfl, rfl, rfl, Tryz.sizeOf9⟩
instance ckf71_0 : TyF Tryz.prog 71 0 0 45 2 := ⟨_, _, Tryz.underlying71, rfl, rfl, rfl, Tryz.sizeOf45⟩
instance ckf71_1 : TyF Tryz.prog 71 1 2 3 1 := ⟨_, _, Tryz.underlying71, rfl, rfl, rfl, Tryz.sizeOf3⟩
instance ckf71_2 : TyF Tryz.prog 71 2 3 42 17 := ⟨_, _, Tryz.underlying71, rfl, rfl, rfl, Tryz.sizeOf42⟩
instance ckf71_3 : TyF Tryz.prog 71 3 20 4 1 := ⟨_, _, Tryz.underlying71, rfl, rfl, rfl, Tryz.sizeOf4⟩
instance ckf71_4 : TyF Tryz.prog 71 4 21 33 1 := ⟨_, _, Tryz.underlying71, rfl, rfl, rfl, Tryz.sizeOf33⟩
instance cku73 : TyU Tryz.prog 73 (Go.TypeDesc.slice 67) := ⟨Tryz.underlying73⟩
instance cku74 : TyU Tryz.prog 74 (Go.TypeDesc.slice 9) := ⟨Tryz.underlying74⟩
instance cku82 : TyU Tryz.prog 82 (Go.TypeDesc.map 9 3) := ⟨Tryz.underlying82⟩
instance ckf84_0 : TyF Tryz.prog 84 0 0 3 1 := ⟨_, _, Tryz.underlying84, rfl, rfl, rfl, Tryz.sizeOf3⟩
instance ckf84_1 : TyF Tryz.prog 84 1 1 23 1 := ⟨_, _, Tryz.underlying84, rfl, rfl, rfl, Tryz.sizeOf23⟩
instance ckf84_2 : TyF Tryz.prog 84 2 2 3 1 := ⟨_, _, Tryz.underlying84, rfl, rfl, rfl, Tryz.sizeOf3⟩
instance ckf84_3 : TyF Tryz.prog 84 3 3 3 1 := ⟨_, _, Tryz.underlying84, rfl, rfl, rfl, Tryz.sizeOf3⟩
instance ckf84_4 : TyF Tryz.prog 84 4 4 82 1 := ⟨_, _, Tryz.underlying84, rfl, rfl, rfl, Tryz.sizeOf82⟩
instance ckf86_0 : TyF Tryz.prog 86 0 0 3 1 := ⟨_, _, Tryz.underlying86, rfl, rfl, rfl, Tryz.sizeOf3⟩
instance ckf86_1 : TyF Tryz.prog 86 1 1 3 1 := ⟨_, _, Tryz.underlying86, rfl, rfl, rfl, Tryz.sizeOf3⟩
instance ckf86_2 : TyF Tryz.prog 86 2 2 45 2 := ⟨_, _, Tryz.underlying86, rfl, rfl, rfl, Tryz.sizeOf45⟩
instance ckf86_3 : TyF Tryz.prog 86 3 4 33 1 := ⟨_, _, Tryz.underlying86, rfl, rfl, rfl, Tryz.sizeOf33⟩
instance ckf90_0 : TyF Tryz.prog 90 0 0 43 32 := ⟨_, _, Tryz.underlying90, rfl, rfl, rfl, Tryz.sizeOf43⟩
instance ckf90_1 : TyF Tryz.prog 90 1 32 86 5 := ⟨_, _, Tryz.underlying90, rfl, rfl, rfl, Tryz.sizeOf86⟩
instance ckf90_2 : TyF Tryz.prog 90 2 37 33 1 := ⟨_, _, Tryz.underlying90, rfl, rfl, rfl, Tryz.sizeOf33⟩
instance cku96 : TyU Tryz.prog 96 (Go.TypeDesc.map 140 4) := ⟨Tryz.underlying96⟩
instance cku97 : TyU Tryz.prog 97 (Go.TypeDesc.map 142 33) := ⟨Tryz.underlying97⟩
instance ckf99_0 : TyF Tryz.prog 99 0 0 4 1 := ⟨_, _, Tryz.underlying99, rfl, rfl, rfl, Tryz.sizeOf4⟩
instance ckf99_1 : TyF Tryz.prog 99 1 1 25 32 := ⟨_, _, Tryz.underlying99, rfl, rfl, rfl, Tryz.sizeOf25⟩
instance ckf99_2 : TyF Tryz.prog 99 2 33 82 1 := ⟨_, _, Tryz.underlying99, rfl, rfl, rfl, Tryz.sizeOf82⟩
instance ckf99_3 : TyF Tryz.prog 99 3 34 96 1 := ⟨_, _, Tryz.underlying99, rfl, rfl, rfl, Tryz.sizeOf96⟩
instance ckf99_4 : TyF Tryz.prog 99 4 35 97 1 := ⟨_, _, Tryz.underlying99, rfl, rfl, rfl, Tryz.sizeOf97⟩
instance cku100 : TyU Tryz.prog 100 (Go.TypeDesc.pointer 103) := ⟨Tryz.underlying100⟩
instance cku101 : TyU Tryz.prog 101 (Go.TypeDesc.slice 240) := ⟨Tryz.underlying101⟩
instance ckf103_0 : TyF Tryz.prog 103 0 0 4 1 := ⟨_, _, Tryz.underlying103, rfl, rfl, rfl, Tryz.sizeOf4⟩
instance ckf103_1 : TyF Tryz.prog 103 1 1 9 1 := ⟨_, _, Tryz.underlying103, rfl, rfl, rfl, Tryz.sizeOf9⟩
instance ckf103_2 : TyF Tryz.prog 103 2 2 74 1 := ⟨_, _, Tryz.underlying103, rfl, rfl, rfl, Tryz.sizeOf74⟩
instance ckf103_3 : TyF Tryz.prog 103 3 3 101 1 := ⟨_, _, Tryz.underlying103, rfl, rfl, rfl, Tryz.sizeOf101⟩
instance ckf140_0 : TyF Tryz.prog 140 0 0 3 1 := ⟨_, _, Tryz.underlying140, rfl, rfl, rfl, Tryz.sizeOf3⟩
instance ckf140_1 : TyF Tryz.prog 140 1 1 3 1 := ⟨_, _, Tryz.underlying140, rfl, rfl, rfl, Tryz.sizeOf3⟩
instance ckf142_0 : TyF Tryz.prog 142 0 0 140 2 := ⟨_, _, Tryz.underlying142, rfl, rfl, rfl, Tryz.sizeOf140⟩
instance ckf142_1 : TyF Tryz.prog 142 1 2 3 1 := ⟨_, _, Tryz.underlying142, rfl, rfl, rfl, Tryz.sizeOf3⟩
instance ckf142_2 : TyF Tryz.prog 142 2 3 9 1 := ⟨_, _, Tryz.underlying142, rfl, rfl, rfl, Tryz.sizeOf9⟩
instance ckf142_3 : TyF Tryz.prog 142 3 4 9 1 := ⟨_, _, Tryz.underlying142, rfl, rfl, rfl, Tryz.sizeOf9⟩
instance cku167 : TyU Tryz.prog 167 (Go.TypeDesc.array 16 5) := ⟨Tryz.underlying167⟩
instance cku192 : TyU Tryz.prog 192 (Go.TypeDesc.array 16 162) := ⟨Tryz.underlying192⟩
instance cku196 : TyU Tryz.prog 196 (Go.TypeDesc.array 5 32) := ⟨Tryz.underlying196⟩
instance cku197 : TyU Tryz.prog 197 (Go.TypeDesc.array 5 32) := ⟨Tryz.underlying197⟩
instance cku207 : TyU Tryz.prog 207 (Go.TypeDesc.slice 162) := ⟨Tryz.underlying207⟩
instance cku212 : TyU Tryz.prog 212 (Go.TypeDesc.pointer 192) := ⟨Tryz.underlying212⟩
instance cku215 : TyU Tryz.prog 215 (Go.TypeDesc.array 17 5) := ⟨Tryz.underlying215⟩
instance cku220 : TyU Tryz.prog 220 (Go.TypeDesc.array 2 3) := ⟨Tryz.underlying220⟩
instance cku221 : TyU Tryz.prog 221 (Go.TypeDesc.array 2 220) := ⟨Tryz.underlying221⟩
instance ckf240_0 : TyF Tryz.prog 240 0 0 3 1 := ⟨_, _, Tryz.underlying240, rfl, rfl, rfl, Tryz.sizeOf3⟩
instance ckf240_1 : TyF Tryz.prog 240 1 1 3 1 := ⟨_, _, Tryz.underlying240, rfl, rfl, rfl, Tryz.sizeOf3⟩
instance ckf240_2 : TyF Tryz.prog 240 2 2 3 1 := ⟨_, _, Tryz.underlying240, rfl, rfl, rfl, Tryz.sizeOf3⟩
instance ckf240_3 : TyF Tryz.prog 240 3 3 9 1 := ⟨_, _, Tryz.underlying240, rfl, rfl, rfl, Tryz.sizeOf9⟩
instance ckf240_4 : TyF Tryz.prog 240 4 4 9 1 := ⟨_, _, Tryz.underlying240, rfl, rfl, rfl, Tryz.sizeOf9⟩
instance ckf240_5 : TyF Tryz.prog 240 5 5 9 1 := ⟨_, _, Tryz.underlying240, rfl, rfl, rfl, Tryz.sizeOf9⟩
instance cka22 : TyA Tryz.prog 22 false := ⟨Tryz.isAgg22⟩
instance cka23 : TyA Tryz.prog 23 false := ⟨Tryz.isAgg23⟩
instance cka26 : TyA Tryz.prog 26 false := ⟨Tryz.isAgg26⟩
instance cka31 : TyA Tryz.prog 31 true := ⟨Tryz.isAgg31⟩
instance cka41 : TyA Tryz.prog 41 true := ⟨Tryz.isAgg41⟩
instance cka43 : TyA Tryz.prog 43 true := ⟨Tryz.isAgg43⟩
instance cka54 : TyA Tryz.prog 54 true := ⟨Tryz.isAgg54⟩
instance cka56 : TyA Tryz.prog 56 true := ⟨Tryz.isAgg56⟩
instance cka58 : TyA Tryz.prog 58 true := ⟨Tryz.isAgg58⟩
instance cka62 : TyA Tryz.prog 62 false := ⟨Tryz.isAgg62⟩
instance cka67 : TyA Tryz.prog 67 true := ⟨Tryz.isAgg67⟩
instance cka71 : TyA Tryz.prog 71 true := ⟨Tryz.isAgg71⟩
instance cka73 : TyA Tryz.prog 73 false := ⟨Tryz.isAgg73⟩
instance cka74 : TyA Tryz.prog 74 false := ⟨Tryz.isAgg74⟩
instance cka82 : TyA Tryz.prog 82 false := ⟨Tryz.isAgg82⟩
instance cka84 : TyA Tryz.prog 84 true := ⟨Tryz.isAgg84⟩
instance cka86 : TyA Tryz.prog 86 true := ⟨Tryz.isAgg86⟩
instance cka90 : TyA Tryz.prog 90 true := ⟨Tryz.isAgg90⟩
instance cka96 : TyA Tryz.prog 96 false := ⟨Tryz.isAgg96⟩
instance cka97 : TyA Tryz.prog 97 false := ⟨Tryz.isAgg97⟩
instance cka99 : TyA Tryz.prog 99 true := ⟨Tryz.isAgg99⟩
instance cka100 : TyA Tryz.prog 100 false := ⟨Tryz.isAgg100⟩
instance cka101 : TyA Tryz.prog 101 false := ⟨Tryz.isAgg101⟩
instance cka103 : TyA Tryz.prog 103 true := ⟨Tryz.isAgg103⟩
instance cka140 : TyA Tryz.prog 140 true := ⟨Tryz.isAgg140⟩
instance cka142 : TyA Tryz.prog 142 true := ⟨Tryz.isAgg142⟩
instance cka167 : TyA Tryz.prog 167 true := ⟨Tryz.isAgg167⟩
instance cka192 : TyA Tryz.prog 192 true := ⟨Tryz.isAgg192⟩
instance cka196 : TyA Tryz.prog 196 true := ⟨Tryz.isAgg196⟩
instance cka197 : TyA Tryz.prog 197 true := ⟨Tryz.isAgg197⟩
instance cka207 : TyA Tryz.prog 207 false := ⟨Tryz.isAgg207⟩
instance cka212 : TyA Tryz.prog 212 false := ⟨Tryz.isAgg212⟩
instance cka215 : TyA Tryz.prog 215 true := ⟨Tryz.isAgg215⟩
instance cka220 : TyA Tryz.prog 220 true := ⟨Tryz.isAgg220⟩
instance cka221 : TyA Tryz.prog 221 true := ⟨Tryz.isAgg221⟩
instance cka240 : TyA Tryz.prog 240 true := ⟨Tryz.isAgg240⟩
instance cks22 : TyS Tryz.prog 22 1 := ⟨Tryz.sizeOf22⟩
instance cks23 : TyS Tryz.prog 23 1 := ⟨Tryz.sizeOf23⟩
instance cks26 : TyS Tryz.prog 26 1 := ⟨Tryz.sizeOf26⟩
instance cks31 : TyS Tryz.prog 31 3 := ⟨Tryz.sizeOf31⟩
instance cks41 : TyS Tryz.prog 41 25 := ⟨Tryz.sizeOf41⟩
instance cks43 : TyS Tryz.prog 43 32 := ⟨Tryz.sizeOf43⟩
instance cks54 : TyS Tryz.prog 54 2 := ⟨Tryz.sizeOf54⟩
instance cks56 : TyS Tryz.prog 56 2 := ⟨Tryz.sizeOf56⟩
instance cks58 : TyS Tryz.prog 58 6 := ⟨Tryz.sizeOf58⟩
instance cks62 : TyS Tryz.prog 62 1 := ⟨Tryz.sizeOf62⟩
instance cks67 : TyS Tryz.prog 67 22 := ⟨Tryz.sizeOf67⟩
instance cks71 : TyS Tryz.prog 71 22 := ⟨Tryz.sizeOf71⟩
instance cks73 : TyS Tryz.prog 73 1 := ⟨Tryz.sizeOf73⟩
instance cks74 : TyS Tryz.prog 74 1 := ⟨Tryz.sizeOf74⟩
instance cks82 : TyS Tryz.prog 82 1 := ⟨Tryz.sizeOf82⟩
instance cks84 : TyS Tryz.prog 84 5 := ⟨Tryz.sizeOf84⟩
instance cks86 : TyS Tryz.prog 86 5 := ⟨Tryz.sizeOf86⟩
instance cks90 : TyS Tryz.prog 90 38 := ⟨Tryz.sizeOf90⟩
instance cks96 : TyS Tryz.prog 96 1 := ⟨Tryz.sizeOf96⟩
instance cks97 : TyS Tryz.prog 97 1 := ⟨Tryz.sizeOf97⟩
instance cks99 : TyS Tryz.prog 99 36 := ⟨Tryz.sizeOf99⟩
instance cks100 : TyS Tryz.prog 100 1 := ⟨Tryz.sizeOf100⟩
instance cks101 : TyS Tryz.prog 101 1 := ⟨Tryz.sizeOf101⟩
instance cks103 : TyS Tryz.prog 103 4 := ⟨Tryz.sizeOf103⟩
instance cks140 : TyS Tryz.prog 140 2 := ⟨Tryz.sizeOf140⟩
instance cks142 : TyS Tryz.prog 142 5 := ⟨Tryz.sizeOf142⟩
instance cks167 : TyS Tryz.prog 167 16 := ⟨Tryz.sizeOf167⟩
instance cks192 : TyS Tryz.prog 192 16 := ⟨Tryz.sizeOf192⟩
instance cks196 : TyS Tryz.prog 196 5 := ⟨Tryz.sizeOf196⟩
instance cks197 : TyS Tryz.prog 197 5 := ⟨Tryz.sizeOf197⟩
instance cks207 : TyS Tryz.prog 207 1 := ⟨Tryz.sizeOf207⟩
instance cks212 : TyS Tryz.prog 212 1 := ⟨Tryz.sizeOf212⟩
instance cks215 : TyS Tryz.prog 215 17 := ⟨Tryz.sizeOf215⟩
instance cks220 : TyS Tryz.prog 220 2 := ⟨Tryz.sizeOf220⟩
instance cks221 : TyS Tryz.prog 221 4 := ⟨Tryz.sizeOf221⟩
instance cks240 : TyS Tryz.prog 240 6 := ⟨Tryz.sizeOf240⟩
instance ckz22 : TyZ Tryz.prog 22 (Go.Value.slice none 0 0) := ⟨Tryz.zeroValue22⟩
instance ckz23 : TyZ Tryz.prog 23 (Go.Value.pointer none) := ⟨Tryz.zeroValue23⟩
instance ckz26 : TyZ Tryz.prog 26 (Go.Value.pointer none) := ⟨Tryz.zeroValue26⟩
instance ckz31 : TyZ Tryz.prog 31 (Go.Value.agg #[Go.Value.int Go.IntKind.i64 0, Go.Value.int Go.IntKind.i64 0, Go.Value.int Go.IntKind.i64 0]) := ⟨Tryz.zeroValue31⟩
instance ckz41 : TyZ Tryz.prog 41 (Go.Value.agg #[Go.Value.int Go.IntKind.i64 0, Go.Value.int Go.IntKind.i64 0, Go.Value.int Go.IntKind.i64 0, Go.Value.slice none 0 0, Go.Value.bool false, Go.Value.int Go.IntKind.i64 0, Go.Value.int Go.IntKind.i64 0, Go.Value.int Go.IntKind.i64 0, Go.Value.int Go.IntKind.i64 0, Go.Value.int Go.IntKind.i64 0, Go.Value.int Go.IntKind.i64 0, Go.Value.int Go.IntKind.i64 0, Go.Value.int Go.IntKind.i64 0, Go.Value.int Go.IntKind.i64 0, Go.Value.int Go.IntKind.i64 0, Go.Value.int Go.IntKind.i64 0, Go.Value.int Go.IntKind.i64 0, Go.Value.int Go.IntKind.i64 0, Go.Value.int Go.IntKind.i64 0, Go.Value.int Go.IntKind.i64 0, Go.Value.int Go.IntKind.i64 0, Go.Value.slice none 0 0, Go.Value.slice none 0 0, Go.Value.int Go.IntKind.i64 0, Go.Value.slice none 0 0]) := ⟨Tryz.zeroValue41⟩
instance ckz43 : TyZ Tryz.prog 43 (Go.Value.agg #[Go.Value.int Go.IntKind.u8 0, Go.Value.int Go.IntKind.u8 0, Go.Value.int Go.IntKind.u8 0, Go.Value.int Go.IntKind.u8 0, Go.Value.int Go.IntKind.u8 0, Go.Value.int Go.IntKind.u8 0, Go.Value.int Go.IntKind.u8 0, Go.Value.int Go.IntKind.u8 0, Go.Value.int Go.IntKind.u8 0, Go.Value.int Go.IntKind.u8 0, Go.Value.int Go.IntKind.u8 0, Go.Value.int Go.IntKind.u8 0, Go.Value.int Go.IntKind.u8 0, Go.Value.int Go.IntKind.u8 0, Go.Value.int Go.IntKind.u8 0, Go.Value.int Go.IntKind.u8 0, Go.Value.int Go.IntKind.u8 0, Go.Value.int Go.IntKind.u8 0, Go.Value.int Go.IntKind.u8 0, Go.Value.int Go.IntKind.u8 0, Go.Value.int Go.IntKind.u8 0, Go.Value.int Go.IntKind.u8 0, Go.Value.int Go.IntKind.u8 0, Go.Value.int Go.IntKind.u8 0, Go.Value.int Go.IntKind.u8 0, Go.Value.int Go.IntKind.u8 0, Go.Value.int Go.IntKind.u8 0, Go.Value.int Go.IntKind.u8 0, Go.Value.int Go.IntKind.u8 0, Go.Value.int Go.IntKind.u8 0, Go.Value.int Go.IntKind.u8 0, Go.Value.int Go.IntKind.u8 0]) := ⟨Tryz.zeroValue43⟩
instance ckz54 : TyZ Tryz.prog 54 (Go.Value.agg #[Go.Value.pointer none, Go.Value.pointer none]) := ⟨Tryz.zeroValue54⟩
instance ckz56 : TyZ Tryz.prog 56 (Go.Value.agg #[Go.Value.pointer none, Go.Value.pointer none]) := ⟨Tryz.zeroValue56⟩
instance ckz58 : TyZ Tryz.prog 58 (Go.Value.agg #[Go.Value.pointer none, Go.Value.pointer none, Go.Value.pointer none, Go.Value.pointer none, Go.Value.pointer none, Go.Value.slice none 0 0]) := ⟨Tryz.zeroValue58⟩
instance ckz62 : TyZ Tryz.prog 62 (Go.Value.slice none 0 0) := ⟨Tryz.zeroValue62⟩
instance ckz67 : TyZ Tryz.prog 67 (Go.Value.agg #[Go.Value.int Go.IntKind.i64 0, Go.Value.int Go.IntKind.i64 0, Go.Value.int Go.IntKind.i64 0, Go.Value.int Go.IntKind.i64 0, Go.Value.int Go.IntKind.i64 0, Go.Value.int Go.IntKind.i64 0, Go.Value.int Go.IntKind.i64 0, Go.Value.int Go.IntKind.i64 0, Go.Value.int Go.IntKind.i64 0, Go.Value.int Go.IntKind.i64 0, Go.Value.int Go.IntKind.i64 0, Go.Value.int Go.IntKind.i64 0, Go.Value.int Go.IntKind.i64 0, Go.Value.int Go.IntKind.i64 0, Go.Value.int Go.IntKind.i64 0, Go.Value.int Go.IntKind.i64 0, Go.Value.int Go.IntKind.i64 0, Go.Value.int Go.IntKind.i64 0, Go.Value.int Go.IntKind.i64 0, Go.Value.slice none 0 0, Go.Value.bool false, Go.Value.string { data := #[] }]) := ⟨Tryz.zeroValue67⟩
instance ckz71 : TyZ Tryz.prog 71 (Go.Value.agg #[Go.Value.int Go.IntKind.i64 0, Go.Value.int Go.IntKind.i64 0, Go.Value.int Go.IntKind.i64 0, Go.Value.int Go.IntKind.i64 0, Go.Value.int Go.IntKind.i64 0, Go.Value.int Go.IntKind.i64 0, Go.Value.int Go.IntKind.i64 0, Go.Value.int Go.IntKind.i64 0, Go.Value.int Go.IntKind.i64 0, Go.Value.int Go.IntKind.i64 0, Go.Value.int Go.IntKind.i64 0, Go.Value.int Go.IntKind.i64 0, Go.Value.int Go.IntKind.i64 0, Go.Value.int Go.IntKind.i64 0, Go.Value.int Go.IntKind.i64 0, Go.Value.int Go.IntKind.i64 0, Go.Value.int Go.IntKind.i64 0, Go.Value.int Go.IntKind.i64 0, Go.Value.int Go.IntKind.i64 0, Go.Value.slice none 0 0, Go.Value.bool false, Go.Value.slice none 0 0]) := ⟨Tryz.zeroValue71⟩
instance ckz73 : TyZ Tryz.prog 73 (Go.Value.slice none 0 0) := ⟨Tryz.zeroValue73⟩
instance ckz74 : TyZ Tryz.prog 74 (Go.Value.slice none 0 0) := ⟨Tryz.zeroValue74⟩
instance ckz82 : TyZ Tryz.prog 82 (Go.Value.map none) := ⟨Tryz.zeroValue82⟩
instance ckz84 : TyZ Tryz.prog 84 (Go.Value.agg #[Go.Value.int Go.IntKind.i64 0, Go.Value.pointer none, Go.Value.int Go.IntKind.i64 0, Go.Value.int Go.IntKind.i64 0, Go.Value.map none]) := ⟨Tryz.zeroValue84⟩
instance ckz86 : TyZ Tryz.prog 86 (Go.Value.agg #[Go.Value.int Go.IntKind.i64 0, Go.Value.int Go.IntKind.i64 0, Go.Value.int Go.IntKind.i64 0, Go.Value.int Go.IntKind.i64 0, Go.Value.slice none 0 0]) := ⟨Tryz.zeroValue86⟩
instance ckz90 : TyZ Tryz.prog 90 (Go.Value.agg #[Go.Value.int Go.IntKind.u8 0, Go.Value.int Go.IntKind.u8 0, Go.Value.int Go.IntKind.u8 0, Go.Value.int Go.IntKind.u8 0, Go.Value.int Go.IntKind.u8 0, Go.Value.int Go.IntKind.u8 0, Go.Value.int Go.IntKind.u8 0, Go.Value.int Go.IntKind.u8 0, Go.Value.int Go.IntKind.u8 0, Go.Value.int Go.IntKind.u8 0, Go.Value.int Go.IntKind.u8 0, Go.Value.int Go.IntKind.u8 0, Go.Value.int Go.IntKind.u8 0, Go.Value.int Go.IntKind.u8 0, Go.Value.int Go.IntKind.u8 0, Go.Value.int Go.IntKind.u8 0, Go.Value.int Go.IntKind.u8 0, Go.Value.int Go.IntKind.u8 0, Go.Value.int Go.IntKind.u8 0, Go.Value.int Go.IntKind.u8 0, Go.Value.int Go.IntKind.u8 0, Go.Value.int Go.IntKind.u8 0, Go.Value.int Go.IntKind.u8 0, Go.Value.int Go.IntKind.u8 0, Go.Value.int Go.IntKind.u8 0, Go.Value.int Go.IntKind.u8 0, Go.Value.int Go.IntKind.u8 0, Go.Value.int Go.IntKind.u8 0, Go.Value.int Go.IntKind.u8 0, Go.Value.int Go.IntKind.u8 0, Go.Value.int Go.IntKind.u8 0, Go.Value.int Go.IntKind.u8 0, Go.Value.int Go.IntKind.i64 0, Go.Value.int Go.IntKind.i64 0, Go.Value.int Go.IntKind.i64 0, Go.Value.int Go.IntKind.i64 0, Go.Value.slice none 0 0, Go.Value.slice none 0 0]) := ⟨Tryz.zeroValue90⟩
instance ckz96 : TyZ Tryz.prog 96 (Go.Value.map none) := ⟨Tryz.zeroValue96⟩
instance ckz97 : TyZ Tryz.prog 97 (Go.Value.map none) := ⟨Tryz.zeroValue97⟩
instance ckz99 : TyZ Tryz.prog 99 (Go.Value.agg #[Go.Value.bool false, Go.Value.int Go.IntKind.u8 0, Go.Value.int Go.IntKind.u8 0, Go.Value.int Go.IntKind.u8 0, Go.Value.int Go.IntKind.u8 0, Go.Value.int Go.IntKind.u8 0, Go.Value.int Go.IntKind.u8 0, Go.Value.int Go.IntKind.u8 0, Go.Value.int Go.IntKind.u8 0, Go.Value.int Go.IntKind.u8 0, Go.Value.int Go.IntKind.u8 0, Go.Value.int Go.IntKind.u8 0, Go.Value.int Go.IntKind.u8 0, Go.Value.int Go.IntKind.u8 0, Go.Value.int Go.IntKind.u8 0, Go.Value.int Go.IntKind.u8 0, Go.Value.int Go.IntKind.u8 0, Go.Value.int Go.IntKind.u8 0, Go.Value.int Go.IntKind.u8 0, Go.Value.int Go.IntKind.u8 0, Go.Value.int Go.IntKind.u8 0, Go.Value.int Go.IntKind.u8 0, Go.Value.int Go.IntKind.u8 0, Go.Value.int Go.IntKind.u8 0, Go.Value.int Go.IntKind.u8 0, Go.Value.int Go.IntKind.u8 0, Go.Value.int Go.IntKind.u8 0, Go.Value.int Go.IntKind.u8 0, Go.Value.int Go.IntKind.u8 0, Go.Value.int Go.IntKind.u8 0, Go.Value.int Go.IntKind.u8 0, Go.Value.int Go.IntKind.u8 0, Go.Value.int Go.IntKind.u8 0, Go.Value.map none, Go.Value.map none, Go.Value.map none]) := ⟨Tryz.zeroValue99⟩
instance ckz100 : TyZ Tryz.prog 100 (Go.Value.pointer none) := ⟨Tryz.zeroValue100⟩
instance ckz101 : TyZ Tryz.prog 101 (Go.Value.slice none 0 0) := ⟨Tryz.zeroValue101⟩
instance ckz103 : TyZ Tryz.prog 103 (Go.Value.agg #[Go.Value.bool false, Go.Value.string { data := #[] }, Go.Value.slice none 0 0, Go.Value.slice none 0 0]) := ⟨Tryz.zeroValue103⟩
instance ckz140 : TyZ Tryz.prog 140 (Go.Value.agg #[Go.Value.int Go.IntKind.i64 0, Go.Value.int Go.IntKind.i64 0]) := ⟨Tryz.zeroValue140⟩
instance ckz142 : TyZ Tryz.prog 142 (Go.Value.agg #[Go.Value.int Go.IntKind.i64 0, Go.Value.int Go.IntKind.i64 0, Go.Value.int Go.IntKind.i64 0, Go.Value.string { data := #[] }, Go.Value.string { data := #[] }]) := ⟨Tryz.zeroValue142⟩
instance ckz167 : TyZ Tryz.prog 167 (Go.Value.agg #[Go.Value.int Go.IntKind.u8 0, Go.Value.int Go.IntKind.u8 0, Go.Value.int Go.IntKind.u8 0, Go.Value.int Go.IntKind.u8 0, Go.Value.int Go.IntKind.u8 0, Go.Value.int Go.IntKind.u8 0, Go.Value.int Go.IntKind.u8 0, Go.Value.int Go.IntKind.u8 0, Go.Value.int Go.IntKind.u8 0, Go.Value.int Go.IntKind.u8 0, Go.Value.int Go.IntKind.u8 0, Go.Value.int Go.IntKind.u8 0, Go.Value.int Go.IntKind.u8 0, Go.Value.int Go.IntKind.u8 0, Go.Value.int Go.IntKind.u8 0, Go.Value.int Go.IntKind.u8 0]) := ⟨Tryz.zeroValue167⟩
instance ckz192 : TyZ Tryz.prog 192 (Go.Value.agg #[Go.Value.int Go.IntKind.u32 0, Go.Value.int Go.IntKind.u32 0, Go.Value.int Go.IntKind.u32 0, Go.Value.int Go.IntKind.u32 0, Go.Value.int Go.IntKind.u32 0, Go.Value.int Go.IntKind.u32 0, Go.Value.int Go.IntKind.u32 0, Go.Value.int Go.IntKind.u32 0, Go.Value.int Go.IntKind.u32 0, Go.Value.int Go.IntKind.u32 0, Go.Value.int Go.IntKind.u32 0, Go.Value.int Go.IntKind.u32 0, Go.Value.int Go.IntKind.u32 0, Go.Value.int Go.IntKind.u32 0, Go.Value.int Go.IntKind.u32 0, Go.Value.int Go.IntKind.u32 0]) := ⟨Tryz.zeroValue192⟩
instance ckz196 : TyZ Tryz.prog 196 (Go.Value.agg #[Go.Value.int Go.IntKind.u64 0, Go.Value.int Go.IntKind.u64 0, Go.Value.int Go.IntKind.u64 0, Go.Value.int Go.IntKind.u64 0, Go.Value.int Go.IntKind.u64 0]) := ⟨Tryz.zeroValue196⟩
instance ckz197 : TyZ Tryz.prog 197 (Go.Value.agg #[Go.Value.int Go.IntKind.u64 0, Go.Value.int Go.IntKind.u64 0, Go.Value.int Go.IntKind.u64 0, Go.Value.int Go.IntKind.u64 0, Go.Value.int Go.IntKind.u64 0]) := ⟨Tryz.zeroValue197⟩
instance ckz207 : TyZ Tryz.prog 207 (Go.Value.slice none 0 0) := ⟨Tryz.zeroValue207⟩
instance ckz212 : TyZ Tryz.prog 212 (Go.Value.pointer none) := ⟨Tryz.zeroValue212⟩
instance ckz215 : TyZ Tryz.prog 215 (Go.Value.agg #[Go.Value.int Go.IntKind.u8 0, Go.Value.int Go.IntKind.u8 0, Go.Value.int Go.IntKind.u8 0, Go.Value.int Go.IntKind.u8 0, Go.Value.int Go.IntKind.u8 0, Go.Value.int Go.IntKind.u8 0, Go.Value.int Go.IntKind.u8 0, Go.Value.int Go.IntKind.u8 0, Go.Value.int Go.IntKind.u8 0, Go.Value.int Go.IntKind.u8 0, Go.Value.int Go.IntKind.u8 0, Go.Value.int Go.IntKind.u8 0, Go.Value.int Go.IntKind.u8 0, Go.Value.int Go.IntKind.u8 0, Go.Value.int Go.IntKind.u8 0, Go.Value.int Go.IntKind.u8 0, Go.Value.int Go.IntKind.u8 0]) := ⟨Tryz.zeroValue215⟩
instance ckz220 : TyZ Tryz.prog 220 (Go.Value.agg #[Go.Value.int Go.IntKind.i64 0, Go.Value.int Go.IntKind.i64 0]) := ⟨Tryz.zeroValue220⟩
instance ckz221 : TyZ Tryz.prog 221 (Go.Value.agg #[Go.Value.int Go.IntKind.i64 0, Go.Value.int Go.IntKind.i64 0, Go.Value.int Go.IntKind.i64 0, Go.Value.int Go.IntKind.i64 0]) := ⟨Tryz.zeroValue221⟩
instance ckz240 : TyZ Tryz.prog 240 (Go.Value.agg #[Go.Value.int Go.IntKind.i64 0, Go.Value.int Go.IntKind.i64 0, Go.Value.int Go.IntKind.i64 0, Go.Value.string { data := #[] }, Go.Value.string { data := #[] }, Go.Value.string { data := #[] }]) := ⟨Tryz.zeroValue240⟩
instance ckb22 : TyB Tryz.prog 22 (Go.Value.slice none 0 0) 1 24 := ⟨by kernel_rfl⟩
instance ckb23 : TyB Tryz.prog 23 (Go.Value.pointer none) 1 8 := ⟨by kernel_rfl⟩
instance ckb26 : TyB Tryz.prog 26 (Go.Value.pointer none) 1 8 := ⟨by kernel_rfl⟩
instance ckb31 : TyB Tryz.prog 31 (Go.Value.agg #[Go.Value.int Go.IntKind.i64 0, Go.Value.int Go.IntKind.i64 0, Go.Value.int Go.IntKind.i64 0]) 3 24 := ⟨by kernel_rfl⟩
instance ckb41 : TyB Tryz.prog 41 (Go.Value.agg #[Go.Value.int Go.IntKind.i64 0, Go.Value.int Go.IntKind.i64 0, Go.Value.int Go.IntKind.i64 0, Go.Value.slice none 0 0, Go.Value.bool false, Go.Value.int Go.IntKind.i64 0, Go.Value.int Go.IntKind.i64 0, Go.Value.int Go.IntKind.i64 0, Go.Value.int Go.IntKind.i64 0, Go.Value.int Go.IntKind.i64 0, Go.Value.int Go.IntKind.i64 0, Go.Value.int Go.IntKind.i64 0, Go.Value.int Go.IntKind.i64 0, Go.Value.int Go.IntKind.i64 0, Go.Value.int Go.IntKind.i64 0, Go.Value.int Go.IntKind.i64 0, Go.Value.int Go.IntKind.i64 0, Go.Value.int Go.IntKind.i64 0, Go.Value.int Go.IntKind.i64 0, Go.Value.int Go.IntKind.i64 0, Go.Value.int Go.IntKind.i64 0, Go.Value.slice none 0 0, Go.Value.slice none 0 0, Go.Value.int Go.IntKind.i64 0, Go.Value.slice none 0 0]) 25 264 := ⟨by kernel_rfl⟩
instance ckb43 : TyB Tryz.prog 43 (Go.Value.agg #[Go.Value.int Go.IntKind.u8 0, Go.Value.int Go.IntKind.u8 0, Go.Value.int Go.IntKind.u8 0, Go.Value.int Go.IntKind.u8 0, Go.Value.int Go.IntKind.u8 0, Go.Value.int Go.IntKind.u8 0, Go.Value.int Go.IntKind.u8 0, Go.Value.int Go.IntKind.u8 0, Go.Value.int Go.IntKind.u8 0, Go.Value.int Go.IntKind.u8 0, Go.Value.int Go.IntKind.u8 0, Go.Value.int Go.IntKind.u8 0, Go.Value.int Go.IntKind.u8 0, Go.Value.int Go.IntKind.u8 0, Go.Value.int Go.IntKind.u8 0, Go.Value.int Go.IntKind.u8 0, Go.Value.int Go.IntKind.u8 0, Go.Value.int Go.IntKind.u8 0, Go.Value.int Go.IntKind.u8 0, Go.Value.int Go.IntKind.u8 0, Go.Value.int Go.IntKind.u8 0, Go.Value.int Go.IntKind.u8 0, Go.Value.int Go.IntKind.u8 0, Go.Value.int Go.IntKind.u8 0, Go.Value.int Go.IntKind.u8 0, Go.Value.int Go.IntKind.u8 0, Go.Value.int Go.IntKind.u8 0, Go.Value.int Go.IntKind.u8 0, Go.Value.int Go.IntKind.u8 0, Go.Value.int Go.IntKind.u8 0, Go.Value.int Go.IntKind.u8 0, Go.Value.int Go.IntKind.u8 0]) 32 32 := ⟨by kernel_rfl⟩
instance ckb54 : TyB Tryz.prog 54 (Go.Value.agg #[Go.Value.pointer none, Go.Value.pointer none]) 2 16 := ⟨by kernel_rfl⟩
instance ckb56 : TyB Tryz.prog 56 (Go.Value.agg #[Go.Value.pointer none, Go.Value.pointer none]) 2 16 := ⟨by kernel_rfl⟩
instance ckb58 : TyB Tryz.prog 58 (Go.Value.agg #[Go.Value.pointer none, Go.Value.pointer none, Go.Value.pointer none, Go.Value.pointer none, Go.Value.pointer none, Go.Value.slice none 0 0]) 6 64 := ⟨by kernel_rfl⟩
instance ckb62 : TyB Tryz.prog 62 (Go.Value.slice none 0 0) 1 24 := ⟨by kernel_rfl⟩
instance ckb67 : TyB Tryz.prog 67 (Go.Value.agg #[Go.Value.int Go.IntKind.i64 0, Go.Value.int Go.IntKind.i64 0, Go.Value.int Go.IntKind.i64 0, Go.Value.int Go.IntKind.i64 0, Go.Value.int Go.IntKind.i64 0, Go.Value.int Go.IntKind.i64 0, Go.Value.int Go.IntKind.i64 0, Go.Value.int Go.IntKind.i64 0, Go.Value.int Go.IntKind.i64 0, Go.Value.int Go.IntKind.i64 0, Go.Value.int Go.IntKind.i64 0, Go.Value.int Go.IntKind.i64 0, Go.Value.int Go.IntKind.i64 0, Go.Value.int Go.IntKind.i64 0, Go.Value.int Go.IntKind.i64 0, Go.Value.int Go.IntKind.i64 0, Go.Value.int Go.IntKind.i64 0, Go.Value.int Go.IntKind.i64 0, Go.Value.int Go.IntKind.i64 0, Go.Value.slice none 0 0, Go.Value.bool false, Go.Value.string { data := #[] }]) 22 200 := ⟨by kernel_rfl⟩
instance ckb71 : TyB Tryz.prog 71 (Go.Value.agg #[Go.Value.int Go.IntKind.i64 0, Go.Value.int Go.IntKind.i64 0, Go.Value.int Go.IntKind.i64 0, Go.Value.int Go.IntKind.i64 0, Go.Value.int Go.IntKind.i64 0, Go.Value.int Go.IntKind.i64 0, Go.Value.int Go.IntKind.i64 0, Go.Value.int Go.IntKind.i64 0, Go.Value.int Go.IntKind.i64 0, Go.Value.int Go.IntKind.i64 0, Go.Value.int Go.IntKind.i64 0, Go.Value.int Go.IntKind.i64 0, Go.Value.int Go.IntKind.i64 0, Go.Value.int Go.IntKind.i64 0, Go.Value.int Go.IntKind.i64 0, Go.Value.int Go.IntKind.i64 0, Go.Value.int Go.IntKind.i64 0, Go.Value.int Go.IntKind.i64 0, Go.Value.int Go.IntKind.i64 0, Go.Value.slice none 0 0, Go.Value.bool false, Go.Value.slice none 0 0]) 22 208 := ⟨by kernel_rfl⟩
instance ckb73 : TyB Tryz.prog 73 (Go.Value.slice none 0 0) 1 24 := ⟨by kernel_rfl⟩
instance ckb74 : TyB Tryz.prog 74 (Go.Value.slice none 0 0) 1 24 := ⟨by kernel_rfl⟩
instance ckb82 : TyB Tryz.prog 82 (Go.Value.map none) 1 8 := ⟨by kernel_rfl⟩
instance ckb84 : TyB Tryz.prog 84 (Go.Value.agg #[Go.Value.int Go.IntKind.i64 0, Go.Value.pointer none, Go.Value.int Go.IntKind.i64 0, Go.Value.int Go.IntKind.i64 0, Go.Value.map none]) 5 40 := ⟨by kernel_rfl⟩
instance ckb86 : TyB Tryz.prog 86 (Go.Value.agg #[Go.Value.int Go.IntKind.i64 0, Go.Value.int Go.IntKind.i64 0, Go.Value.int Go.IntKind.i64 0, Go.Value.int Go.IntKind.i64 0, Go.Value.slice none 0 0]) 5 56 := ⟨by kernel_rfl⟩
instance ckb90 : TyB Tryz.prog 90 (Go.Value.agg #[Go.Value.int Go.IntKind.u8 0, Go.Value.int Go.IntKind.u8 0, Go.Value.int Go.IntKind.u8 0, Go.Value.int Go.IntKind.u8 0, Go.Value.int Go.IntKind.u8 0, Go.Value.int Go.IntKind.u8 0, Go.Value.int Go.IntKind.u8 0, Go.Value.int Go.IntKind.u8 0, Go.Value.int Go.IntKind.u8 0, Go.Value.int Go.IntKind.u8 0, Go.Value.int Go.IntKind.u8 0, Go.Value.int Go.IntKind.u8 0, Go.Value.int Go.IntKind.u8 0, Go.Value.int Go.IntKind.u8 0, Go.Value.int Go.IntKind.u8 0, Go.Value.int Go.IntKind.u8 0, Go.Value.int Go.IntKind.u8 0, Go.Value.int Go.IntKind.u8 0, Go.Value.int Go.IntKind.u8 0, Go.Value.int Go.IntKind.u8 0, Go.Value.int Go.IntKind.u8 0, Go.Value.int Go.IntKind.u8 0, Go.Value.int Go.IntKind.u8 0, Go.Value.int Go.IntKind.u8 0, Go.Value.int Go.IntKind.u8 0, Go.Value.int Go.IntKind.u8 0, Go.Value.int Go.IntKind.u8 0, Go.Value.int Go.IntKind.u8 0, Go.Value.int Go.IntKind.u8 0, Go.Value.int Go.IntKind.u8 0, Go.Value.int Go.IntKind.u8 0, Go.Value.int Go.IntKind.u8 0, Go.Value.int Go.IntKind.i64 0, Go.Value.int Go.IntKind.i64 0, Go.Value.int Go.IntKind.i64 0, Go.Value.int Go.IntKind.i64 0, Go.Value.slice none 0 0, Go.Value.slice none 0 0]) 38 112 := ⟨by kernel_rfl⟩
instance ckb96 : TyB Tryz.prog 96 (Go.Value.map none) 1 8 := ⟨by kernel_rfl⟩
instance ckb97 : TyB Tryz.prog 97 (Go.Value.map none) 1 8 := ⟨by kernel_rfl⟩
instance ckb99 : TyB Tryz.prog 99 (Go.Value.agg #[Go.Value.bool false, Go.Value.int Go.IntKind.u8 0, Go.Value.int Go.IntKind.u8 0, Go.Value.int Go.IntKind.u8 0, Go.Value.int Go.IntKind.u8 0, Go.Value.int Go.IntKind.u8 0, Go.Value.int Go.IntKind.u8 0, Go.Value.int Go.IntKind.u8 0, Go.Value.int Go.IntKind.u8 0, Go.Value.int Go.IntKind.u8 0, Go.Value.int Go.IntKind.u8 0, Go.Value.int Go.IntKind.u8 0, Go.Value.int Go.IntKind.u8 0, Go.Value.int Go.IntKind.u8 0, Go.Value.int Go.IntKind.u8 0, Go.Value.int Go.IntKind.u8 0, Go.Value.int Go.IntKind.u8 0, Go.Value.int Go.IntKind.u8 0, Go.Value.int Go.IntKind.u8 0, Go.Value.int Go.IntKind.u8 0, Go.Value.int Go.IntKind.u8 0, Go.Value.int Go.IntKind.u8 0, Go.Value.int Go.IntKind.u8 0, Go.Value.int Go.IntKind.u8 0, Go.Value.int Go.IntKind.u8 0, Go.Value.int Go.IntKind.u8 0, Go.Value.int Go.IntKind.u8 0, Go.Value.int Go.IntKind.u8 0, Go.Value.int Go.IntKind.u8 0, Go.Value.int Go.IntKind.u8 0, Go.Value.int Go.IntKind.u8 0, Go.Value.int Go.IntKind.u8 0, Go.Value.int Go.IntKind.u8 0, Go.Value.map none, Go.Value.map none, Go.Value.map none]) 36 64 := ⟨by kernel_rfl⟩
instance ckb100 : TyB Tryz.prog 100 (Go.Value.pointer none) 1 8 := ⟨by kernel_rfl⟩
instance ckb101 : TyB Tryz.prog 101 (Go.Value.slice none 0 0) 1 24 := ⟨by kernel_rfl⟩
instance ckb103 : TyB Tryz.prog 103 (Go.Value.agg #[Go.Value.bool false, Go.Value.string { data := #[] }, Go.Value.slice none 0 0, Go.Value.slice none 0 0]) 4 72 := ⟨by kernel_rfl⟩
instance ckb140 : TyB Tryz.prog 140 (Go.Value.agg #[Go.Value.int Go.IntKind.i64 0, Go.Value.int Go.IntKind.i64 0]) 2 16 := ⟨by kernel_rfl⟩
instance ckb142 : TyB Tryz.prog 142 (Go.Value.agg #[Go.Value.int Go.IntKind.i64 0, Go.Value.int Go.IntKind.i64 0, Go.Value.int Go.IntKind.i64 0, Go.Value.string { data := #[] }, Go.Value.string { data := #[] }]) 5 56 := ⟨by kernel_rfl⟩
instance ckb167 : TyB Tryz.prog 167 (Go.Value.agg #[Go.Value.int Go.IntKind.u8 0, Go.Value.int Go.IntKind.u8 0, Go.Value.int Go.IntKind.u8 0, Go.Value.int Go.IntKind.u8 0, Go.Value.int Go.IntKind.u8 0, Go.Value.int Go.IntKind.u8 0, Go.Value.int Go.IntKind.u8 0, Go.Value.int Go.IntKind.u8 0, Go.Value.int Go.IntKind.u8 0, Go.Value.int Go.IntKind.u8 0, Go.Value.int Go.IntKind.u8 0, Go.Value.int Go.IntKind.u8 0, Go.Value.int Go.IntKind.u8 0, Go.Value.int Go.IntKind.u8 0, Go.Value.int Go.IntKind.u8 0, Go.Value.int Go.IntKind.u8 0]) 16 16 := ⟨by kernel_rfl⟩
instance ckb192 : TyB Tryz.prog 192 (Go.Value.agg #[Go.Value.int Go.IntKind.u32 0, Go.Value.int Go.IntKind.u32 0, Go.Value.int Go.IntKind.u32 0, Go.Value.int Go.IntKind.u32 0, Go.Value.int Go.IntKind.u32 0, Go.Value.int Go.IntKind.u32 0, Go.Value.int Go.IntKind.u32 0, Go.Value.int Go.IntKind.u32 0, Go.Value.int Go.IntKind.u32 0, Go.Value.int Go.IntKind.u32 0, Go.Value.int Go.IntKind.u32 0, Go.Value.int Go.IntKind.u32 0, Go.Value.int Go.IntKind.u32 0, Go.Value.int Go.IntKind.u32 0, Go.Value.int Go.IntKind.u32 0, Go.Value.int Go.IntKind.u32 0]) 16 64 := ⟨by kernel_rfl⟩
instance ckb196 : TyB Tryz.prog 196 (Go.Value.agg #[Go.Value.int Go.IntKind.u64 0, Go.Value.int Go.IntKind.u64 0, Go.Value.int Go.IntKind.u64 0, Go.Value.int Go.IntKind.u64 0, Go.Value.int Go.IntKind.u64 0]) 5 40 := ⟨by kernel_rfl⟩
instance ckb197 : TyB Tryz.prog 197 (Go.Value.agg #[Go.Value.int Go.IntKind.u64 0, Go.Value.int Go.IntKind.u64 0, Go.Value.int Go.IntKind.u64 0, Go.Value.int Go.IntKind.u64 0, Go.Value.int Go.IntKind.u64 0]) 5 40 := ⟨by kernel_rfl⟩
instance ckb207 : TyB Tryz.prog 207 (Go.Value.slice none 0 0) 1 24 := ⟨by kernel_rfl⟩
instance ckb212 : TyB Tryz.prog 212 (Go.Value.pointer none) 1 8 := ⟨by kernel_rfl⟩
instance ckb215 : TyB Tryz.prog 215 (Go.Value.agg #[Go.Value.int Go.IntKind.u8 0, Go.Value.int Go.IntKind.u8 0, Go.Value.int Go.IntKind.u8 0, Go.Value.int Go.IntKind.u8 0, Go.Value.int Go.IntKind.u8 0, Go.Value.int Go.IntKind.u8 0, Go.Value.int Go.IntKind.u8 0, Go.Value.int Go.IntKind.u8 0, Go.Value.int Go.IntKind.u8 0, Go.Value.int Go.IntKind.u8 0, Go.Value.int Go.IntKind.u8 0, Go.Value.int Go.IntKind.u8 0, Go.Value.int Go.IntKind.u8 0, Go.Value.int Go.IntKind.u8 0, Go.Value.int Go.IntKind.u8 0, Go.Value.int Go.IntKind.u8 0, Go.Value.int Go.IntKind.u8 0]) 17 17 := ⟨by kernel_rfl⟩
instance ckb220 : TyB Tryz.prog 220 (Go.Value.agg #[Go.Value.int Go.IntKind.i64 0, Go.Value.int Go.IntKind.i64 0]) 2 16 := ⟨by kernel_rfl⟩
instance ckb221 : TyB Tryz.prog 221 (Go.Value.agg #[Go.Value.int Go.IntKind.i64 0, Go.Value.int Go.IntKind.i64 0, Go.Value.int Go.IntKind.i64 0, Go.Value.int Go.IntKind.i64 0]) 4 32 := ⟨by kernel_rfl⟩
instance ckb240 : TyB Tryz.prog 240 (Go.Value.agg #[Go.Value.int Go.IntKind.i64 0, Go.Value.int Go.IntKind.i64 0, Go.Value.int Go.IntKind.i64 0, Go.Value.string { data := #[] }, Go.Value.string { data := #[] }, Go.Value.string { data := #[] }]) 6 72 := ⟨by kernel_rfl⟩
instance ckp41 : TyP Tryz.prog 41 [(0, 1), (1, 1), (2, 1), (3, 1), (4, 1), (5, 17), (22, 1), (23, 1), (24, 1)] := ⟨_, Tryz.underlying41, fun w => by simp [Tryz.sizeOf3, Tryz.sizeOf4, Tryz.sizeOf33, Tryz.sizeOf37, Tryz.sizeOf38, Tryz.sizeOf39]⟩
instance ckp58 : TyP Tryz.prog 58 [(0, 1), (1, 2), (3, 2), (5, 1)] := ⟨_, Tryz.underlying58, fun w => by simp [Tryz.sizeOf23, Tryz.sizeOf39, Tryz.sizeOf54, Tryz.sizeOf56]⟩
instance ckp67 : TyP Tryz.prog 67 [(0, 2), (2, 1), (3, 17), (20, 1), (21, 1)] := ⟨_, Tryz.underlying67, fun w => by simp [Tryz.sizeOf3, Tryz.sizeOf4, Tryz.sizeOf9, Tryz.sizeOf37, Tryz.sizeOf45]⟩
instance ckp71 : TyP Tryz.prog 71 [(0, 2), (2, 1), (3, 17), (20, 1), (21, 1)] := ⟨_, Tryz.underlying71, fun w => by simp [Tryz.sizeOf3, Tryz.sizeOf4, Tryz.sizeOf33, Tryz.sizeOf42, Tryz.sizeOf45]⟩
instance ckp84 : TyP Tryz.prog 84 [(0, 1), (1, 1), (2, 1), (3, 1), (4, 1)] := ⟨_, Tryz.underlying84, fun w => by simp [Tryz.sizeOf3, Tryz.sizeOf23, Tryz.sizeOf82]⟩
instance ckp86 : TyP Tryz.prog 86 [(0, 1), (1, 1), (2, 2), (4, 1)] := ⟨_, Tryz.underlying86, fun w => by simp [Tryz.sizeOf3, Tryz.sizeOf33, Tryz.sizeOf45]⟩
instance ckp90 : TyP Tryz.prog 90 [(0, 32), (32, 5), (37, 1)] := ⟨_, Tryz.underlying90, fun w => by simp [Tryz.sizeOf33, Tryz.sizeOf43, Tryz.sizeOf86]⟩
instance ckp99 : TyP Tryz.prog 99 [(0, 1), (1, 32), (33, 1), (34, 1), (35, 1)] := ⟨_, Tryz.underlying99, fun w => by simp [Tryz.sizeOf4, Tryz.sizeOf25, Tryz.sizeOf82, Tryz.sizeOf96, Tryz.sizeOf97]⟩
instance ckp103 : TyP Tryz.prog 103 [(0, 1), (1, 1), (2, 1), (3, 1)] := ⟨_, Tryz.underlying103, fun w => by simp [Tryz.sizeOf4, Tryz.sizeOf9, Tryz.sizeOf74, Tryz.sizeOf101]⟩
instance ckp140 : TyP Tryz.prog 140 [(0, 1), (1, 1)] := ⟨_, Tryz.underlying140, fun w => by simp [Tryz.sizeOf3]⟩
instance ckp142 : TyP Tryz.prog 142 [(0, 2), (2, 1), (3, 1), (4, 1)] := ⟨_, Tryz.underlying142, fun w => by simp [Tryz.sizeOf3, Tryz.sizeOf9, Tryz.sizeOf140]⟩
instance ckp240 : TyP Tryz.prog 240 [(0, 1), (1, 1), (2, 1), (3, 1), (4, 1), (5, 1)] := ⟨_, Tryz.underlying240, fun w => by simp [Tryz.sizeOf3, Tryz.sizeOf9]⟩
instance ckg56 : TyG Tryz.prog 56 := ⟨Tryz.eqGuardType56⟩
instance ckg90 : TyG Tryz.prog 90 := ⟨Tryz.eqGuardType90⟩
instance ckg142 : TyG Tryz.prog 142 := ⟨Tryz.eqGuardType142⟩
instance ckg41 : TyG Tryz.prog 41 := ⟨Tryz.eqGuardType41⟩
instance ckg31 : TyG Tryz.prog 31 := ⟨Tryz.eqGuardType31⟩
instance ckg240 : TyG Tryz.prog 240 := ⟨Tryz.eqGuardType240⟩
instance ckg167 : TyG Tryz.prog 167 := ⟨Tryz.eqGuardType167⟩
instance ckg54 : TyG Tryz.prog 54 := ⟨Tryz.eqGuardType54⟩
instance ckg103 : TyG Tryz.prog 103 := ⟨Tryz.eqGuardType103⟩
instance ckg99 : TyG Tryz.prog 99 := ⟨Tryz.eqGuardType99⟩
instance ckg58 : TyG Tryz.prog 58 := ⟨Tryz.eqGuardType58⟩
instance ckg71 : TyG Tryz.prog 71 := ⟨Tryz.eqGuardType71⟩
instance ckg192 : TyG Tryz.prog 192 := ⟨Tryz.eqGuardType192⟩
instance ckg197 : TyG Tryz.prog 197 := ⟨Tryz.eqGuardType197⟩
instance ckg196 : TyG Tryz.prog 196 := ⟨Tryz.eqGuardType196⟩
instance ckg140 : TyG Tryz.prog 140 := ⟨Tryz.eqGuardType140⟩
instance ckg67 : TyG Tryz.prog 67 := ⟨Tryz.eqGuardType67⟩
instance ckg215 : TyG Tryz.prog 215 := ⟨Tryz.eqGuardType215⟩
instance ckg220 : TyG Tryz.prog 220 := ⟨Tryz.eqGuardType220⟩
instance ckg43 : TyG Tryz.prog 43 := ⟨Tryz.eqGuardType43⟩
instance ckg86 : TyG Tryz.prog 86 := ⟨Tryz.eqGuardType86⟩
instance ckg221 : TyG Tryz.prog 221 := ⟨Tryz.eqGuardType221⟩
instance ckg84 : TyG Tryz.prog 84 := ⟨Tryz.eqGuardType84⟩
end Go.Proofs.YtaofgcahmfailaaGreatDoor
end
