/- The proof of a given statement, a part of it (RepS). No condition but what each lemma says. -/
import Derived.Shelf.Strings.Repeat
import Derived.Ground.NamesProg
import Derived.Test.YtpbmephflllolaaGreatProg
import Derived.Test.YtpbmephflllolaaGreatE7
set_option linter.unusedVariables false
set_option linter.unusedSimpArgs false
namespace Go.Proofs
open Go.Shelf
def Tryz.lays105_ren : Go.Shelf.Ren := ⟨fun | 105 => 267 | 212 => 268 | 99 => 269 | 165 => 270 | 166 => 95 | 170 => 271 | 169 => 96 | 263 => 272 | 264 => 273 | 206 => 274 | 240 => 139 | 241 => 275 | 276 => 185 | 277 => 276 | n => n, fun | 9 => 9 | 3 => 3 | 4 => 4 | 20 => 20 | 0 => 0 | 46 => 130 | 109 => 357 | 5 => 5 | 72 => 187 | 76 => 193 | 51 => 97 | 146 => 361 | 53 => 129 | 148 => 363 | 70 => 185 | 37 => 127 | 75 => 192 | 127 => 249 | 164 => 83 | 80 => 195 | n => n, fun | n => n⟩
theorem Tryz.lays105 : Go.Proofs.Lays.n105 Tryz.prog Tryz.lays105_ren := {
  mixed := by kernel_rfl
  f99 := Tryz.func269.trans (congrArg some (by kernel_rfl))
  f105 := Tryz.func267.trans (congrArg some (by kernel_rfl))
  f165 := Tryz.func270.trans (congrArg some (by kernel_rfl))
  f166 := Tryz.func95.trans (congrArg some (by kernel_rfl))
  f169 := Tryz.func96.trans (congrArg some (by kernel_rfl))
  f170 := Tryz.func271.trans (congrArg some (by kernel_rfl))
  f206 := Tryz.func274.trans (congrArg some (by kernel_rfl))
  f212 := Tryz.func268.trans (congrArg some (by kernel_rfl))
  f240 := Tryz.func139.trans (congrArg some (by kernel_rfl))
  f241 := Tryz.func275.trans (congrArg some (by kernel_rfl))
  f263 := Tryz.func272.trans (congrArg some (by kernel_rfl))
  f264 := Tryz.func273.trans (congrArg some (by kernel_rfl))
  f276 := Tryz.func185.trans (congrArg some (by kernel_rfl))
  f277 := Tryz.func276.trans (congrArg some (by kernel_rfl))
  t0 := Tryz.underlying0
  a0 := Tryz.isAgg0
  z0 := Tryz.sizeOf0
  v0 := Tryz.zeroValue0
  t3 := Tryz.underlying3
  a3 := Tryz.isAgg3
  z3 := Tryz.sizeOf3
  v3 := Tryz.zeroValue3
  t4 := Tryz.underlying4
  a4 := Tryz.isAgg4
  z4 := Tryz.sizeOf4
  v4 := Tryz.zeroValue4
  t5 := Tryz.underlying5
  a5 := Tryz.isAgg5
  z5 := Tryz.sizeOf5
  v5 := Tryz.zeroValue5
  t9 := Tryz.underlying9
  a9 := Tryz.isAgg9
  z9 := Tryz.sizeOf9
  v9 := Tryz.zeroValue9
  t20 := Tryz.underlying20
  a20 := Tryz.isAgg20
  z20 := Tryz.sizeOf20
  v20 := Tryz.zeroValue20
  t37 := Tryz.underlying127
  a37 := Tryz.isAgg127
  z37 := Tryz.sizeOf127
  v37 := Tryz.zeroValue127
  t46 := Tryz.underlying130
  a46 := Tryz.isAgg130
  z46 := Tryz.sizeOf130
  v46 := Tryz.zeroValue130
  t51 := Tryz.underlying97
  a51 := Tryz.isAgg97
  z51 := Tryz.sizeOf97
  v51 := Tryz.zeroValue97
  t53 := Tryz.underlying129
  a53 := Tryz.isAgg129
  z53 := Tryz.sizeOf129
  v53 := Tryz.zeroValue129
  t70 := Tryz.underlying185
  a70 := Tryz.isAgg185
  z70 := Tryz.sizeOf185
  v70 := Tryz.zeroValue185
  t72 := Tryz.underlying187
  a72 := Tryz.isAgg187
  z72 := Tryz.sizeOf187
  v72 := Tryz.zeroValue187
  t75 := Tryz.underlying192
  a75 := Tryz.isAgg192
  z75 := Tryz.sizeOf192
  v75 := Tryz.zeroValue192
  t76 := Tryz.underlying193
  a76 := Tryz.isAgg193
  z76 := Tryz.sizeOf193
  v76 := Tryz.zeroValue193
  t109 := Tryz.underlying357
  a109 := Tryz.isAgg357
  z109 := Tryz.sizeOf357
  v109 := Tryz.zeroValue357
  t127 := Tryz.underlying249
  a127 := Tryz.isAgg249
  z127 := Tryz.sizeOf249
  v127 := Tryz.zeroValue249
  t146 := Tryz.underlying361
  a146 := Tryz.isAgg361
  z146 := Tryz.sizeOf361
  v146 := Tryz.zeroValue361
  t148 := Tryz.underlying363
  a148 := Tryz.isAgg363
  z148 := Tryz.sizeOf363
  v148 := Tryz.zeroValue363
  t164 := Tryz.underlying83
  a164 := Tryz.isAgg83
  z164 := Tryz.sizeOf83
  v164 := Tryz.zeroValue83 }
end Go.Proofs
