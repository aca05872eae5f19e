/- DERIVED. Conditions: those that each theorem names. -/
import Derived.Shelf.Strings.Repeat
import Derived.Ground.NamesProg
import Derived.Shelf.SlGeneric
import Derived.Ground.SlgnProg
import Derived.Shelf.SlicesE.Reverse
import Derived.Test.YtahdlpkncemmaaaProg
set_option maxRecDepth 100000
set_option maxHeartbeats 8000000
set_option linter.unusedSimpArgs false
set_option linter.unusedVariables false
namespace Go.Proofs
open Go.Shelf
def Try.lay105_ren : Go.Shelf.Ren := ⟨fun | 105 => 83 | 212 => 85 | 99 => 86 | 165 => 87 | 166 => 88 | 170 => 89 | 169 => 90 | 263 => 91 | 264 => 92 | 206 => 93 | 240 => 94 | 241 => 95 | 276 => 96 | 277 => 97 | n => n, fun | 9 => 9 | 3 => 3 | 4 => 4 | 20 => 20 | 0 => 0 | 46 => 61 | 109 => 106 | 5 => 5 | 72 => 111 | 76 => 113 | 51 => 44 | 146 => 66 | 53 => 41 | 148 => 118 | 70 => 109 | 37 => 104 | 75 => 96 | 127 => 120 | 164 => 121 | 80 => 116 | n => n, fun | n => n⟩
theorem Try.lay105 : Go.Proofs.Lays.n105 Try.prog Try.lay105_ren := {
 mixed := by kernel_rfl
 f99 := Try.func86.trans (congrArg some (by kernel_rfl))
 f105 := Try.func83.trans (congrArg some (by kernel_rfl))
 f165 := Try.func87.trans (congrArg some (by kernel_rfl))
 f166 := Try.func88.trans (congrArg some (by kernel_rfl))
 f169 := Try.func90.trans (congrArg some (by kernel_rfl))
 f170 := Try.func89.trans (congrArg some (by kernel_rfl))
 f206 := Try.func93.trans (congrArg some (by kernel_rfl))
 f212 := Try.func85.trans (congrArg some (by kernel_rfl))
 f240 := Try.func94.trans (congrArg some (by kernel_rfl))
 f241 := Try.func95.trans (congrArg some (by kernel_rfl))
 f263 := Try.func91.trans (congrArg some (by kernel_rfl))
 f264 := Try.func92.trans (congrArg some (by kernel_rfl))
 f276 := Try.func96.trans (congrArg some (by kernel_rfl))
 f277 := Try.func97.trans (congrArg some (by kernel_rfl))
 t0 := Try.underlying0
 a0 := Try.isAgg0
 z0 := Try.sizeOf0
 v0 := Try.zeroValue0
 t3 := Try.underlying3
 a3 := Try.isAgg3
 z3 := Try.sizeOf3
 v3 := Try.zeroValue3
 t4 := Try.underlying4
 a4 := Try.isAgg4
 z4 := Try.sizeOf4
 v4 := Try.zeroValue4
 t5 := Try.underlying5
 a5 := Try.isAgg5
 z5 := Try.sizeOf5
 v5 := Try.zeroValue5
 t9 := Try.underlying9
 a9 := Try.isAgg9
 z9 := Try.sizeOf9
 v9 := Try.zeroValue9
 t20 := Try.underlying20
 a20 := Try.isAgg20
 z20 := Try.sizeOf20
 v20 := Try.zeroValue20
 t37 := Try.underlying104
 a37 := Try.isAgg104
 z37 := Try.sizeOf104
 v37 := Try.zeroValue104
 t46 := Try.underlying61
 a46 := Try.isAgg61
 z46 := Try.sizeOf61
 v46 := Try.zeroValue61
 t51 := Try.underlying44
 a51 := Try.isAgg44
 z51 := Try.sizeOf44
 v51 := Try.zeroValue44
 t53 := Try.underlying41
 a53 := Try.isAgg41
 z53 := Try.sizeOf41
 v53 := Try.zeroValue41
 t70 := Try.underlying109
 a70 := Try.isAgg109
 z70 := Try.sizeOf109
 v70 := Try.zeroValue109
 t72 := Try.underlying111
 a72 := Try.isAgg111
 z72 := Try.sizeOf111
 v72 := Try.zeroValue111
 t75 := Try.underlying96
 a75 := Try.isAgg96
 z75 := Try.sizeOf96
 v75 := Try.zeroValue96
 t76 := Try.underlying113
 a76 := Try.isAgg113
 z76 := Try.sizeOf113
 v76 := Try.zeroValue113
 t109 := Try.underlying106
 a109 := Try.isAgg106
 z109 := Try.sizeOf106
 v109 := Try.zeroValue106
 t127 := Try.underlying120
 a127 := Try.isAgg120
 z127 := Try.sizeOf120
 v127 := Try.zeroValue120
 t146 := Try.underlying66
 a146 := Try.isAgg66
 z146 := Try.sizeOf66
 v146 := Try.zeroValue66
 t148 := Try.underlying118
 a148 := Try.isAgg118
 z148 := Try.sizeOf118
 v148 := Try.zeroValue118
 t164 := Try.underlying121
 a164 := Try.isAgg121
 z164 := Try.sizeOf121
 v164 := Try.zeroValue121 }
def Try.laygSlgn35_ren : Go.Shelf.Ren := ⟨fun | 35 => 84 | n => n, fun | 22 => 104 | 23 => 5 | 3 => 3 | 4 => 4 | 0 => 0 | n => n, fun | n => n⟩
theorem Try.laygSlgn35 : Go.Proofs.SlLaysE.n35 Try.prog Try.laygSlgn35_ren := {
 mixed := by kernel_rfl
 f35 := ⟨Try.f84.name, by decide, Try.func84.trans (congrArg some (by kernel_rfl))⟩
 t0 := Try.underlying0
 a0 := Try.isAgg0
 z0 := Try.sizeOf0
 v0 := Try.zeroValue0
 t3 := Try.underlying3
 a3 := Try.isAgg3
 z3 := Try.sizeOf3
 v3 := Try.zeroValue3
 t4 := Try.underlying4
 a4 := Try.isAgg4
 z4 := Try.sizeOf4
 v4 := Try.zeroValue4
 t22 := Try.underlying104
 a22 := Try.isAgg104
 z22 := Try.sizeOf104
 v22 := Try.zeroValue104
 a23 := Try.isAgg5
 z23 := Try.sizeOf5 }
end Go.Proofs
