/- The proof of a given statement, a part of it (RepS). No condition but what each lemma says. -/
import Derived.Shelf.Strings.Repeat
import Derived.Ground.NamesProg
import Derived.Test.YtjobgnabneddjaaGreatProg
import Derived.Test.YtjobgnabneddjaaGreatN7
set_option linter.unusedVariables false
set_option linter.unusedSimpArgs false
namespace Go.Proofs
open Go.Shelf
def Tryz.lays105_ren : Go.Shelf.Ren := ⟨fun | 105 => 341 | 212 => 342 | 99 => 343 | 165 => 344 | 166 => 173 | 170 => 345 | 169 => 174 | 263 => 346 | 264 => 347 | 206 => 348 | 240 => 232 | 241 => 349 | 276 => 264 | 277 => 350 | n => n, fun | 9 => 9 | 3 => 3 | 4 => 4 | 20 => 20 | 0 => 0 | 46 => 242 | 109 => 448 | 5 => 5 | 72 => 303 | 76 => 308 | 51 => 408 | 146 => 451 | 53 => 89 | 148 => 453 | 70 => 300 | 37 => 301 | 75 => 307 | 127 => 363 | 164 => 391 | 80 => 310 | n => n, fun | n => n⟩
theorem Tryz.lays105 : Go.Proofs.Lays.n105 Tryz.prog Tryz.lays105_ren := {
  mixed := by kernel_rfl
  f99 := Tryz.func343.trans (congrArg some (by kernel_rfl))
  f105 := Tryz.func341.trans (congrArg some (by kernel_rfl))
  f165 := Tryz.func344.trans (congrArg some (by kernel_rfl))
  f166 := Tryz.func173.trans (congrArg some (by kernel_rfl))
  f169 := Tryz.func174.trans (congrArg some (by kernel_rfl))
  f170 := Tryz.func345.trans (congrArg some (by kernel_rfl))
  f206 := Tryz.func348.trans (congrArg some (by kernel_rfl))
  f212 := Tryz.func342.trans (congrArg some (by kernel_rfl))
  f240 := Tryz.func232.trans (congrArg some (by kernel_rfl))
  f241 := Tryz.func349.trans (congrArg some (by kernel_rfl))
  f263 := Tryz.func346.trans (congrArg some (by kernel_rfl))
  f264 := Tryz.func347.trans (congrArg some (by kernel_rfl))
  f276 := Tryz.func264.trans (congrArg some (by kernel_rfl))
  f277 := Tryz.func350.trans (congrArg some (by kernel_rfl))
  t0 := Tryz.underlying0
  a0 := Tryz.isAgg0
  z0 := Tryz.sizeOf0
  v0 := Tryz.zeroValue0
  t3 := Tryz.underlying3
  a3 := Tryz.isAgg3
  z3 := Tryz.sizeOf3
  v3 := Tryz.zeroValue3
  t4 := Tryz.underlying4
  a4 := Tryz.isAgg4
  z4 := Tryz.sizeOf4
  v4 := Tryz.zeroValue4
  t5 := Tryz.underlying5
  a5 := Tryz.isAgg5
  z5 := Tryz.sizeOf5
  v5 := Tryz.zeroValue5
  t9 := Tryz.underlying9
  a9 := Tryz.isAgg9
  z9 := Tryz.sizeOf9
  v9 := Tryz.zeroValue9
  t20 := Tryz.underlying20
  a20 := Tryz.isAgg20
  z20 := Tryz.sizeOf20
  v20 := Tryz.zeroValue20
  t37 := Tryz.underlying301
  a37 := Tryz.isAgg301
  z37 := Tryz.sizeOf301
  v37 := Tryz.zeroValue301
  t46 := Tryz.underlying242
  a46 := Tryz.isAgg242
  z46 := Tryz.sizeOf242
  v46 := Tryz.zeroValue242
  t51 := Tryz.underlying408
  a51 := Tryz.isAgg408
  z51 := Tryz.sizeOf408
  v51 := Tryz.zeroValue408
  t53 := Tryz.underlying89
  a53 := Tryz.isAgg89
  z53 := Tryz.sizeOf89
  v53 := Tryz.zeroValue89
  t70 := Tryz.underlying300
  a70 := Tryz.isAgg300
  z70 := Tryz.sizeOf300
  v70 := Tryz.zeroValue300
  t72 := Tryz.underlying303
  a72 := Tryz.isAgg303
  z72 := Tryz.sizeOf303
  v72 := Tryz.zeroValue303
  t75 := Tryz.underlying307
  a75 := Tryz.isAgg307
  z75 := Tryz.sizeOf307
  v75 := Tryz.zeroValue307
  t76 := Tryz.underlying308
  a76 := Tryz.isAgg308
  z76 := Tryz.sizeOf308
  v76 := Tryz.zeroValue308
  t109 := Tryz.underlying448
  a109 := Tryz.isAgg448
  z109 := Tryz.sizeOf448
  v109 := Tryz.zeroValue448
  t127 := Tryz.underlying363
  a127 := Tryz.isAgg363
  z127 := Tryz.sizeOf363
  v127 := Tryz.zeroValue363
  t146 := Tryz.underlying451
  a146 := Tryz.isAgg451
  z146 := Tryz.sizeOf451
  v146 := Tryz.zeroValue451
  t148 := Tryz.underlying453
  a148 := Tryz.isAgg453
  z148 := Tryz.sizeOf453
  v148 := Tryz.zeroValue453
  t164 := Tryz.underlying391
  a164 := Tryz.isAgg391
  z164 := Tryz.sizeOf391
  v164 := Tryz.zeroValue391 }
end Go.Proofs
