/- Texts of the proofs, part 23: what the functions that they reach do, walked; no conditions beyond those that each states. -/
import Derived.Shelf.Strconv.Itoa0
import Derived.Ground.Names2Prog
import Derived.Shelf.Small.Bits
import Derived.Shelf.Sort.Plain
import Derived.Test.YtlolfcnfcgegdaaProg
import Derived.Test.YtlolfcnfcgegdaaZzba41da1ed5
set_option linter.unusedVariables false
set_option linter.unusedSimpArgs false
/-
  DERIVED: THE SHELF's CONTRACTS AT THIS DUMP, IN PLAIN WORDS (tools/lay-plain.mjs out of 'YtlolfcnfcgegdaaShelf.lean', which tools/lay-shelf.mjs wrote): THE SAME DECLARATIONS UNDER THE SAME NAMES: 'import', 'namespace', 'open', 'def', 'theorem' AND NOTHING ELSE: no command of the shelf's: FOR A HAND-IN. Each laying: the table of numbers ('.._ren') and one theorem, a field a fact of the dump's own or the kernel's comparison; each contract: ONE APPLICATION.
-/
namespace Go.Proofs
open Go.Shelf
def Try.lays125_ren : Go.Shelf.Ren := ⟨fun | 125 => 81 | 128 => 94 | 129 => 95 | n => n, fun | 46 => 132 | 3 => 3 | 51 => 33 | 53 => 27 | 4 => 4 | 5 => 5 | 9 => 9 | n => n, fun | n => n⟩
theorem Try.lays125 : Go.Proofs.Lays.n125 Try.prog Try.lays125_ren := {
  mixed := by kernel_rfl
  f125 := Try.func81.trans (congrArg some (by kernel_rfl))
  f128 := Try.func94.trans (congrArg some (by kernel_rfl))
  f129 := Try.func95.trans (congrArg some (by kernel_rfl))
  t3 := Try.underlying3
  a3 := Try.isAgg3
  z3 := Try.sizeOf3
  v3 := Try.zeroValue3
  t4 := Try.underlying4
  a4 := Try.isAgg4
  z4 := Try.sizeOf4
  v4 := Try.zeroValue4
  t5 := Try.underlying5
  a5 := Try.isAgg5
  z5 := Try.sizeOf5
  v5 := Try.zeroValue5
  t9 := Try.underlying9
  a9 := Try.isAgg9
  z9 := Try.sizeOf9
  v9 := Try.zeroValue9
  t46 := Try.underlying132
  a46 := Try.isAgg132
  z46 := Try.sizeOf132
  v46 := Try.zeroValue132
  t51 := Try.underlying33
  a51 := Try.isAgg33
  z51 := Try.sizeOf33
  v51 := Try.zeroValue33
  t53 := Try.underlying27
  a53 := Try.isAgg27
  z53 := Try.sizeOf27
  v53 := Try.zeroValue27 }
def Try.lays189_ren : Go.Shelf.Ren := ⟨fun | 189 => 70 | 125 => 81 | 257 => 80 | 128 => 94 | 129 => 95 | 294 => 85 | 295 => 86 | 296 => 87 | 297 => 88 | 298 => 89 | 299 => 90 | 216 => 91 | 300 => 92 | 301 => 93 | 328 => 96 | 329 => 97 | 330 => 98 | 331 => 99 | 332 => 100 | 215 => 101 | 343 => 102 | n => n, fun | 28 => 109 | 3 => 3 | 46 => 132 | 0 => 0 | 51 => 33 | 53 => 27 | 4 => 4 | 183 => 137 | 182 => 136 | 131 => 142 | 5 => 5 | 9 => 9 | 218 => 146 | 222 => 149 | 228 => 151 | 229 => 152 | n => n, fun | n => n⟩
theorem Try.lays189 : Go.Proofs.Lays.n189 Try.prog Try.lays189_ren := {
  mixed := by kernel_rfl
  f125 := Try.func81.trans (congrArg some (by kernel_rfl))
  f128 := Try.func94.trans (congrArg some (by kernel_rfl))
  f129 := Try.func95.trans (congrArg some (by kernel_rfl))
  f189 := Try.func70.trans (congrArg some (by kernel_rfl))
  f215 := Try.func101.trans (congrArg some (by kernel_rfl))
  f216 := Try.func91.trans (congrArg some (by kernel_rfl))
  f257 := Try.func80.trans (congrArg some (by kernel_rfl))
  f294 := Try.func85.trans (congrArg some (by kernel_rfl))
  f295 := Try.func86.trans (congrArg some (by kernel_rfl))
  f296 := Try.func87.trans (congrArg some (by kernel_rfl))
  f297 := Try.func88.trans (congrArg some (by kernel_rfl))
  f298 := Try.func89.trans (congrArg some (by kernel_rfl))
  f299 := Try.func90.trans (congrArg some (by kernel_rfl))
  f300 := Try.func92.trans (congrArg some (by kernel_rfl))
  f301 := Try.func93.trans (congrArg some (by kernel_rfl))
  f328 := Try.func96.trans (congrArg some (by kernel_rfl))
  f329 := Try.func97.trans (congrArg some (by kernel_rfl))
  f330 := Try.func98.trans (congrArg some (by kernel_rfl))
  f331 := Try.func99.trans (congrArg some (by kernel_rfl))
  f332 := Try.func100.trans (congrArg some (by kernel_rfl))
  f343 := Try.func102.trans (congrArg some (by kernel_rfl))
  t0 := Try.underlying0
  a0 := Try.isAgg0
  z0 := Try.sizeOf0
  v0 := Try.zeroValue0
  t3 := Try.underlying3
  a3 := Try.isAgg3
  z3 := Try.sizeOf3
  v3 := Try.zeroValue3
  t4 := Try.underlying4
  a4 := Try.isAgg4
  z4 := Try.sizeOf4
  v4 := Try.zeroValue4
  t5 := Try.underlying5
  a5 := Try.isAgg5
  z5 := Try.sizeOf5
  v5 := Try.zeroValue5
  t9 := Try.underlying9
  a9 := Try.isAgg9
  z9 := Try.sizeOf9
  v9 := Try.zeroValue9
  t28 := Try.underlying109
  a28 := Try.isAgg109
  z28 := Try.sizeOf109
  v28 := Try.zeroValue109
  t46 := Try.underlying132
  a46 := Try.isAgg132
  z46 := Try.sizeOf132
  v46 := Try.zeroValue132
  t51 := Try.underlying33
  a51 := Try.isAgg33
  z51 := Try.sizeOf33
  v51 := Try.zeroValue33
  t53 := Try.underlying27
  a53 := Try.isAgg27
  z53 := Try.sizeOf27
  v53 := Try.zeroValue27
  t131 := Try.underlying142
  a131 := Try.isAgg142
  z131 := Try.sizeOf142
  v131 := Try.zeroValue142
  t182 := Try.underlying136
  a182 := Try.isAgg136
  z182 := Try.sizeOf136
  v182 := Try.zeroValue136
  t183 := Try.underlying137
  a183 := Try.isAgg137
  z183 := Try.sizeOf137
  v183 := Try.zeroValue137
  t218 := Try.underlying146
  a218 := Try.isAgg146
  z218 := Try.sizeOf146
  v218 := Try.zeroValue146
  t222 := Try.underlying149
  a222 := Try.isAgg149
  z222 := Try.sizeOf149
  v222 := Try.zeroValue149
  t228 := Try.underlying151
  a228 := Try.isAgg151
  z228 := Try.sizeOf151
  v228 := Try.zeroValue151
  t229 := Try.underlying152
  a229 := Try.isAgg152
  z229 := Try.sizeOf152
  v229 := Try.zeroValue152 }
end Go.Proofs
