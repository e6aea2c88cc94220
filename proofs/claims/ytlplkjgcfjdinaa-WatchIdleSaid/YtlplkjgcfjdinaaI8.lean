/- The proof of a given statement, a part of it (RepS). No condition but what each lemma says. -/
import Derived.Shelf.Strings.Repeat
import Derived.Ground.NamesProg
import Derived.Test.YtlplkjgcfjdinaaProg
import Derived.Test.YtlplkjgcfjdinaaI7
set_option linter.unusedVariables false
set_option linter.unusedSimpArgs false
namespace Go.Proofs
open Go.Shelf
def Try.lays105_ren : Go.Shelf.Ren := ⟨fun | 105 => 103 | 212 => 104 | 99 => 105 | 165 => 106 | 166 => 44 | 170 => 107 | 169 => 45 | 263 => 108 | 264 => 109 | 206 => 110 | 240 => 56 | 241 => 111 | 276 => 63 | 277 => 112 | n => n, fun | 9 => 9 | 3 => 3 | 4 => 4 | 20 => 20 | 0 => 0 | 46 => 119 | 109 => 183 | 5 => 5 | 72 => 101 | 76 => 108 | 51 => 172 | 146 => 187 | 53 => 112 | 148 => 189 | 70 => 98 | 37 => 99 | 75 => 107 | 127 => 133 | 164 => 141 | 80 => 110 | n => n, fun | n => n⟩
theorem Try.lays105 : Go.Proofs.Lays.n105 Try.prog Try.lays105_ren := {
  mixed := by kernel_rfl
  f99 := Try.func105.trans (congrArg some (by kernel_rfl))
  f105 := Try.func103.trans (congrArg some (by kernel_rfl))
  f165 := Try.func106.trans (congrArg some (by kernel_rfl))
  f166 := Try.func44.trans (congrArg some (by kernel_rfl))
  f169 := Try.func45.trans (congrArg some (by kernel_rfl))
  f170 := Try.func107.trans (congrArg some (by kernel_rfl))
  f206 := Try.func110.trans (congrArg some (by kernel_rfl))
  f212 := Try.func104.trans (congrArg some (by kernel_rfl))
  f240 := Try.func56.trans (congrArg some (by kernel_rfl))
  f241 := Try.func111.trans (congrArg some (by kernel_rfl))
  f263 := Try.func108.trans (congrArg some (by kernel_rfl))
  f264 := Try.func109.trans (congrArg some (by kernel_rfl))
  f276 := Try.func63.trans (congrArg some (by kernel_rfl))
  f277 := Try.func112.trans (congrArg some (by kernel_rfl))
  t0 := Try.underlying0
  a0 := Try.isAgg0
  z0 := Try.sizeOf0
  v0 := Try.zeroValue0
  t3 := Try.underlying3
  a3 := Try.isAgg3
  z3 := Try.sizeOf3
  v3 := Try.zeroValue3
  t4 := Try.underlying4
  a4 := Try.isAgg4
  z4 := Try.sizeOf4
  v4 := Try.zeroValue4
  t5 := Try.underlying5
  a5 := Try.isAgg5
  z5 := Try.sizeOf5
  v5 := Try.zeroValue5
  t9 := Try.underlying9
  a9 := Try.isAgg9
  z9 := Try.sizeOf9
  v9 := Try.zeroValue9
  t20 := Try.underlying20
  a20 := Try.isAgg20
  z20 := Try.sizeOf20
  v20 := Try.zeroValue20
  t37 := Try.underlying99
  a37 := Try.isAgg99
  z37 := Try.sizeOf99
  v37 := Try.zeroValue99
  t46 := Try.underlying119
  a46 := Try.isAgg119
  z46 := Try.sizeOf119
  v46 := Try.zeroValue119
  t51 := Try.underlying172
  a51 := Try.isAgg172
  z51 := Try.sizeOf172
  v51 := Try.zeroValue172
  t53 := Try.underlying112
  a53 := Try.isAgg112
  z53 := Try.sizeOf112
  v53 := Try.zeroValue112
  t70 := Try.underlying98
  a70 := Try.isAgg98
  z70 := Try.sizeOf98
  v70 := Try.zeroValue98
  t72 := Try.underlying101
  a72 := Try.isAgg101
  z72 := Try.sizeOf101
  v72 := Try.zeroValue101
  t75 := Try.underlying107
  a75 := Try.isAgg107
  z75 := Try.sizeOf107
  v75 := Try.zeroValue107
  t76 := Try.underlying108
  a76 := Try.isAgg108
  z76 := Try.sizeOf108
  v76 := Try.zeroValue108
  t109 := Try.underlying183
  a109 := Try.isAgg183
  z109 := Try.sizeOf183
  v109 := Try.zeroValue183
  t127 := Try.underlying133
  a127 := Try.isAgg133
  z127 := Try.sizeOf133
  v127 := Try.zeroValue133
  t146 := Try.underlying187
  a146 := Try.isAgg187
  z146 := Try.sizeOf187
  v146 := Try.zeroValue187
  t148 := Try.underlying189
  a148 := Try.isAgg189
  z148 := Try.sizeOf189
  v148 := Try.zeroValue189
  t164 := Try.underlying141
  a164 := Try.isAgg141
  z164 := Try.sizeOf141
  v164 := Try.zeroValue141 }
end Go.Proofs
