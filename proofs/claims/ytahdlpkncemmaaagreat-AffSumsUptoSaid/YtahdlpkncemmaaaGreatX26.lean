/- DERIVED. Conditions: those that each theorem names. -/
import Derived.Shelf.Strings.Repeat
import Derived.Ground.NamesProg
import Derived.Shelf.SlGeneric
import Derived.Ground.SlgnProg
import Derived.Shelf.SlicesE.Reverse
import Derived.Test.YtahdlpkncemmaaaGreatProg
set_option maxRecDepth 100000
set_option maxHeartbeats 8000000
set_option linter.unusedSimpArgs false
set_option linter.unusedVariables false
namespace Go.Proofs
open Go.Shelf
def Tryz.lay105_ren : Go.Shelf.Ren := ⟨fun | 105 => 138 | 212 => 140 | 99 => 141 | 165 => 142 | 166 => 143 | 170 => 144 | 169 => 145 | 263 => 146 | 264 => 147 | 206 => 148 | 240 => 149 | 241 => 150 | 276 => 151 | 277 => 152 | n => n, fun | 9 => 9 | 3 => 3 | 4 => 4 | 20 => 20 | 0 => 0 | 46 => 103 | 109 => 135 | 5 => 5 | 72 => 140 | 76 => 142 | 51 => 86 | 146 => 104 | 53 => 83 | 148 => 147 | 70 => 138 | 37 => 133 | 75 => 132 | 127 => 149 | 164 => 150 | 80 => 145 | n => n, fun | n => n⟩
theorem Tryz.lay105 : Go.Proofs.Lays.n105 Tryz.prog Tryz.lay105_ren := {
 mixed := by kernel_rfl
 f99 := Tryz.func141.trans (congrArg some (by kernel_rfl))
 f105 := Tryz.func138.trans (congrArg some (by kernel_rfl))
 f165 := Tryz.func142.trans (congrArg some (by kernel_rfl))
 f166 := Tryz.func143.trans (congrArg some (by kernel_rfl))
 f169 := Tryz.func145.trans (congrArg some (by kernel_rfl))
 f170 := Tryz.func144.trans (congrArg some (by kernel_rfl))
 f206 := Tryz.func148.trans (congrArg some (by kernel_rfl))
 f212 := Tryz.func140.trans (congrArg some (by kernel_rfl))
 f240 := Tryz.func149.trans (congrArg some (by kernel_rfl))
 f241 := Tryz.func150.trans (congrArg some (by kernel_rfl))
 f263 := Tryz.func146.trans (congrArg some (by kernel_rfl))
 f264 := Tryz.func147.trans (congrArg some (by kernel_rfl))
 f276 := Tryz.func151.trans (congrArg some (by kernel_rfl))
 f277 := Tryz.func152.trans (congrArg some (by kernel_rfl))
 t0 := Tryz.underlying0
 a0 := Tryz.isAgg0
 z0 := Tryz.sizeOf0
 v0 := Tryz.zeroValue0
 t3 := Tryz.underlying3
 a3 := Tryz.isAgg3
 z3 := Tryz.sizeOf3
 v3 := Tryz.zeroValue3
 t4 := Tryz.underlying4
 a4 := Tryz.isAgg4
 z4 := Tryz.sizeOf4
 v4 := Tryz.zeroValue4
 t5 := Tryz.underlying5
 a5 := Tryz.isAgg5
 z5 := Tryz.sizeOf5
 v5 := Tryz.zeroValue5
 t9 := Tryz.underlying9
 a9 := Tryz.isAgg9
 z9 := Tryz.sizeOf9
 v9 := Tryz.zeroValue9
 t20 := Tryz.underlying20
 a20 := Tryz.isAgg20
 z20 := Tryz.sizeOf20
 v20 := Tryz.zeroValue20
 t37 := Tryz.underlying133
 a37 := Tryz.isAgg133
 z37 := Tryz.sizeOf133
 v37 := Tryz.zeroValue133
 t46 := Tryz.underlying103
 a46 := Tryz.isAgg103
 z46 := Tryz.sizeOf103
 v46 := Tryz.zeroValue103
 t51 := Tryz.underlying86
 a51 := Tryz.isAgg86
 z51 := Tryz.sizeOf86
 v51 := Tryz.zeroValue86
 t53 := Tryz.underlying83
 a53 := Tryz.isAgg83
 z53 := Tryz.sizeOf83
 v53 := Tryz.zeroValue83
 t70 := Tryz.underlying138
 a70 := Tryz.isAgg138
 z70 := Tryz.sizeOf138
 v70 := Tryz.zeroValue138
 t72 := Tryz.underlying140
 a72 := Tryz.isAgg140
 z72 := Tryz.sizeOf140
 v72 := Tryz.zeroValue140
 t75 := Tryz.underlying132
 a75 := Tryz.isAgg132
 z75 := Tryz.sizeOf132
 v75 := Tryz.zeroValue132
 t76 := Tryz.underlying142
 a76 := Tryz.isAgg142
 z76 := Tryz.sizeOf142
 v76 := Tryz.zeroValue142
 t109 := Tryz.underlying135
 a109 := Tryz.isAgg135
 z109 := Tryz.sizeOf135
 v109 := Tryz.zeroValue135
 t127 := Tryz.underlying149
 a127 := Tryz.isAgg149
 z127 := Tryz.sizeOf149
 v127 := Tryz.zeroValue149
 t146 := Tryz.underlying104
 a146 := Tryz.isAgg104
 z146 := Tryz.sizeOf104
 v146 := Tryz.zeroValue104
 t148 := Tryz.underlying147
 a148 := Tryz.isAgg147
 z148 := Tryz.sizeOf147
 v148 := Tryz.zeroValue147
 t164 := Tryz.underlying150
 a164 := Tryz.isAgg150
 z164 := Tryz.sizeOf150
 v164 := Tryz.zeroValue150 }
def Tryz.laygSlgn35_ren : Go.Shelf.Ren := ⟨fun | 35 => 139 | n => n, fun | 22 => 133 | 23 => 5 | 3 => 3 | 4 => 4 | 0 => 0 | n => n, fun | n => n⟩
theorem Tryz.laygSlgn35 : Go.Proofs.SlLaysE.n35 Tryz.prog Tryz.laygSlgn35_ren := {
 mixed := by kernel_rfl
 f35 := ⟨Tryz.f139.name, by decide, Tryz.func139.trans (congrArg some (by kernel_rfl))⟩
 t0 := Tryz.underlying0
 a0 := Tryz.isAgg0
 z0 := Tryz.sizeOf0
 v0 := Tryz.zeroValue0
 t3 := Tryz.underlying3
 a3 := Tryz.isAgg3
 z3 := Tryz.sizeOf3
 v3 := Tryz.zeroValue3
 t4 := Tryz.underlying4
 a4 := Tryz.isAgg4
 z4 := Tryz.sizeOf4
 v4 := Tryz.zeroValue4
 t22 := Tryz.underlying133
 a22 := Tryz.isAgg133
 z22 := Tryz.sizeOf133
 v22 := Tryz.zeroValue133
 a23 := Tryz.isAgg5
 z23 := Tryz.sizeOf5 }
end Go.Proofs
