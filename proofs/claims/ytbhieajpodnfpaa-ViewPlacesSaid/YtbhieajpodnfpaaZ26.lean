/- DERIVED: THE SHELF's CONTRACTS AT THIS DUMP, IN PLAIN WORDS (tools/lay-plain.mjs out of 'YtbhieajpodnfpaaShelfT.lean', which tools/lay-shelf.mjs wrote): THE SAME DECLARATIONS UNDER THE SAME NAMES: 'import', 'namespace', 'open', 'def', 'theorem' AND NOTHING ELSE: no command of the shelf's: FOR A HAND-IN. Each laying: the table of numbers ('.._ren') and one theorem, a field a fact of the dump's own or the kernel's comparison; each contract: ONE APPLICATION.. Conditions: those that each theorem names. -/
import Derived.Shelf.Strings.Repeat
import Derived.Ground.NamesProg
import Derived.Shelf.Slices.Turned
import Derived.Shelf.SlGeneric
import Derived.Ground.SlgnProg
import Derived.Shelf.SlicesE.Reverse
import Derived.Test.YtbhieajpodnfpaaProg
namespace Go.Proofs
open Go.Shelf
def Try.lay105_ren : Go.Shelf.Ren := ⟨fun | 105 => 60 | 212 => 79 | 99 => 80 | 165 => 81 | 166 => 82 | 170 => 83 | 169 => 84 | 263 => 98 | 264 => 99 | 206 => 100 | 240 => 101 | 241 => 102 | 276 => 106 | 277 => 107 | n => n, fun | 9 => 9 | 3 => 3 | 4 => 4 | 20 => 20 | 0 => 0 | 46 => 99 | 109 => 116 | 5 => 5 | 72 => 121 | 76 => 125 | 51 => 68 | 146 => 129 | 53 => 96 | 148 => 143 | 70 => 119 | 37 => 105 | 75 => 124 | 127 => 145 | 164 => 147 | 80 => 128 | n => n, fun | n => n⟩
theorem Try.lay105 : Go.Proofs.Lays.n105 Try.prog Try.lay105_ren := {
  mixed := by kernel_rfl
  f99 := Try.func80.trans (congrArg some (by kernel_rfl))
  f105 := Try.func60.trans (congrArg some (by kernel_rfl))
  f165 := Try.func81.trans (congrArg some (by kernel_rfl))
  f166 := Try.func82.trans (congrArg some (by kernel_rfl))
  f169 := Try.func84.trans (congrArg some (by kernel_rfl))
  f170 := Try.func83.trans (congrArg some (by kernel_rfl))
  f206 := Try.func100.trans (congrArg some (by kernel_rfl))
  f212 := Try.func79.trans (congrArg some (by kernel_rfl))
  f240 := Try.func101.trans (congrArg some (by kernel_rfl))
  f241 := Try.func102.trans (congrArg some (by kernel_rfl))
  f263 := Try.func98.trans (congrArg some (by kernel_rfl))
  f264 := Try.func99.trans (congrArg some (by kernel_rfl))
  f276 := Try.func106.trans (congrArg some (by kernel_rfl))
  f277 := Try.func107.trans (congrArg some (by kernel_rfl))
  t0 := Try.underlying0
  a0 := Try.isAgg0
  z0 := Try.sizeOf0
  v0 := Try.zeroValue0
  t3 := Try.underlying3
  a3 := Try.isAgg3
  z3 := Try.sizeOf3
  v3 := Try.zeroValue3
  t4 := Try.underlying4
  a4 := Try.isAgg4
  z4 := Try.sizeOf4
  v4 := Try.zeroValue4
  t5 := Try.underlying5
  a5 := Try.isAgg5
  z5 := Try.sizeOf5
  v5 := Try.zeroValue5
  t9 := Try.underlying9
  a9 := Try.isAgg9
  z9 := Try.sizeOf9
  v9 := Try.zeroValue9
  t20 := Try.underlying20
  a20 := Try.isAgg20
  z20 := Try.sizeOf20
  v20 := Try.zeroValue20
  t37 := Try.underlying105
  a37 := Try.isAgg105
  z37 := Try.sizeOf105
  v37 := Try.zeroValue105
  t46 := Try.underlying99
  a46 := Try.isAgg99
  z46 := Try.sizeOf99
  v46 := Try.zeroValue99
  t51 := Try.underlying68
  a51 := Try.isAgg68
  z51 := Try.sizeOf68
  v51 := Try.zeroValue68
  t53 := Try.underlying96
  a53 := Try.isAgg96
  z53 := Try.sizeOf96
  v53 := Try.zeroValue96
  t70 := Try.underlying119
  a70 := Try.isAgg119
  z70 := Try.sizeOf119
  v70 := Try.zeroValue119
  t72 := Try.underlying121
  a72 := Try.isAgg121
  z72 := Try.sizeOf121
  v72 := Try.zeroValue121
  t75 := Try.underlying124
  a75 := Try.isAgg124
  z75 := Try.sizeOf124
  v75 := Try.zeroValue124
  t76 := Try.underlying125
  a76 := Try.isAgg125
  z76 := Try.sizeOf125
  v76 := Try.zeroValue125
  t109 := Try.underlying116
  a109 := Try.isAgg116
  z109 := Try.sizeOf116
  v109 := Try.zeroValue116
  t127 := Try.underlying145
  a127 := Try.isAgg145
  z127 := Try.sizeOf145
  v127 := Try.zeroValue145
  t146 := Try.underlying129
  a146 := Try.isAgg129
  z146 := Try.sizeOf129
  v146 := Try.zeroValue129
  t148 := Try.underlying143
  a148 := Try.isAgg143
  z148 := Try.sizeOf143
  v148 := Try.zeroValue143
  t164 := Try.underlying147
  a164 := Try.isAgg147
  z164 := Try.sizeOf147
  v164 := Try.zeroValue147 }
def Try.lay108_ren : Go.Shelf.Ren := ⟨fun | 108 => 44 | n => n, fun | 28 => 43 | 3 => 3 | 0 => 0 | 4 => 4 | n => n, fun | n => n⟩
theorem Try.lay108 : Go.Proofs.Lays.n108 Try.prog Try.lay108_ren := {
  mixed := by kernel_rfl
  f108 := Try.func44.trans (congrArg some (by kernel_rfl))
  t0 := Try.underlying0
  a0 := Try.isAgg0
  z0 := Try.sizeOf0
  v0 := Try.zeroValue0
  t3 := Try.underlying3
  a3 := Try.isAgg3
  z3 := Try.sizeOf3
  v3 := Try.zeroValue3
  t4 := Try.underlying4
  a4 := Try.isAgg4
  z4 := Try.sizeOf4
  v4 := Try.zeroValue4
  t28 := Try.underlying43
  a28 := Try.isAgg43
  z28 := Try.sizeOf43
  v28 := Try.zeroValue43 }
def Try.laygSlgn35_ren : Go.Shelf.Ren := ⟨fun | 35 => 63 | n => n, fun | 22 => 105 | 23 => 5 | 3 => 3 | 4 => 4 | 0 => 0 | n => n, fun | n => n⟩
theorem Try.laygSlgn35 : Go.Proofs.SlLaysE.n35 Try.prog Try.laygSlgn35_ren := {
  mixed := by kernel_rfl
  f35 := ⟨Try.f63.name, by decide, Try.func63.trans (congrArg some (by kernel_rfl))⟩
  t0 := Try.underlying0
  a0 := Try.isAgg0
  z0 := Try.sizeOf0
  v0 := Try.zeroValue0
  t3 := Try.underlying3
  a3 := Try.isAgg3
  z3 := Try.sizeOf3
  v3 := Try.zeroValue3
  t4 := Try.underlying4
  a4 := Try.isAgg4
  z4 := Try.sizeOf4
  v4 := Try.zeroValue4
  t22 := Try.underlying105
  a22 := Try.isAgg105
  z22 := Try.sizeOf105
  v22 := Try.zeroValue105
  a23 := Try.isAgg5
  z23 := Try.sizeOf5 }
end Go.Proofs
