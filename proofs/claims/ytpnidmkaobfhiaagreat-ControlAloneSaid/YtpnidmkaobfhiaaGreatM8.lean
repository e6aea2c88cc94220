/- The proof of a given statement, a part of it (RepS). No condition but what each lemma says. -/
import Derived.Shelf.Strings.Repeat
import Derived.Ground.NamesProg
import Derived.Test.YtpnidmkaobfhiaaGreatProg
import Derived.Test.YtpnidmkaobfhiaaGreatM7
set_option linter.unusedVariables false
set_option linter.unusedSimpArgs false
namespace Go.Proofs
open Go.Shelf
def Tryz.lays105_ren : Go.Shelf.Ren := ⟨fun | 105 => 260 | 212 => 261 | 99 => 262 | 165 => 263 | 166 => 264 | 170 => 265 | 169 => 266 | 263 => 267 | 264 => 268 | 206 => 269 | 240 => 270 | 241 => 271 | 276 => 272 | 277 => 273 | n => n, fun | 9 => 9 | 3 => 3 | 4 => 4 | 20 => 20 | 0 => 0 | 46 => 236 | 109 => 377 | 5 => 5 | 72 => 382 | 76 => 385 | 51 => 335 | 146 => 387 | 53 => 208 | 148 => 389 | 70 => 380 | 37 => 234 | 75 => 384 | 127 => 361 | 164 => 391 | 80 => 352 | n => n, fun | n => n⟩
theorem Tryz.lays105 : Go.Proofs.Lays.n105 Tryz.prog Tryz.lays105_ren := {
  mixed := by kernel_rfl
  f99 := Tryz.func262.trans (congrArg some (by kernel_rfl))
  f105 := Tryz.func260.trans (congrArg some (by kernel_rfl))
  f165 := Tryz.func263.trans (congrArg some (by kernel_rfl))
  f166 := Tryz.func264.trans (congrArg some (by kernel_rfl))
  f169 := Tryz.func266.trans (congrArg some (by kernel_rfl))
  f170 := Tryz.func265.trans (congrArg some (by kernel_rfl))
  f206 := Tryz.func269.trans (congrArg some (by kernel_rfl))
  f212 := Tryz.func261.trans (congrArg some (by kernel_rfl))
  f240 := Tryz.func270.trans (congrArg some (by kernel_rfl))
  f241 := Tryz.func271.trans (congrArg some (by kernel_rfl))
  f263 := Tryz.func267.trans (congrArg some (by kernel_rfl))
  f264 := Tryz.func268.trans (congrArg some (by kernel_rfl))
  f276 := Tryz.func272.trans (congrArg some (by kernel_rfl))
  f277 := Tryz.func273.trans (congrArg some (by kernel_rfl))
  t0 := Tryz.underlying0
  a0 := Tryz.isAgg0
  z0 := Tryz.sizeOf0
  v0 := Tryz.zeroValue0
  t3 := Tryz.underlying3
  a3 := Tryz.isAgg3
  z3 := Tryz.sizeOf3
  v3 := Tryz.zeroValue3
  t4 := Tryz.underlying4
  a4 := Tryz.isAgg4
  z4 := Tryz.sizeOf4
  v4 := Tryz.zeroValue4
  t5 := Tryz.underlying5
  a5 := Tryz.isAgg5
  z5 := Tryz.sizeOf5
  v5 := Tryz.zeroValue5
  t9 := Tryz.underlying9
  a9 := Tryz.isAgg9
  z9 := Tryz.sizeOf9
  v9 := Tryz.zeroValue9
  t20 := Tryz.underlying20
  a20 := Tryz.isAgg20
  z20 := Tryz.sizeOf20
  v20 := Tryz.zeroValue20
  t37 := Tryz.underlying234
  a37 := Tryz.isAgg234
  z37 := Tryz.sizeOf234
  v37 := Tryz.zeroValue234
  t46 := Tryz.underlying236
  a46 := Tryz.isAgg236
  z46 := Tryz.sizeOf236
  v46 := Tryz.zeroValue236
  t51 := Tryz.underlying335
  a51 := Tryz.isAgg335
  z51 := Tryz.sizeOf335
  v51 := Tryz.zeroValue335
  t53 := Tryz.underlying208
  a53 := Tryz.isAgg208
  z53 := Tryz.sizeOf208
  v53 := Tryz.zeroValue208
  t70 := Tryz.underlying380
  a70 := Tryz.isAgg380
  z70 := Tryz.sizeOf380
  v70 := Tryz.zeroValue380
  t72 := Tryz.underlying382
  a72 := Tryz.isAgg382
  z72 := Tryz.sizeOf382
  v72 := Tryz.zeroValue382
  t75 := Tryz.underlying384
  a75 := Tryz.isAgg384
  z75 := Tryz.sizeOf384
  v75 := Tryz.zeroValue384
  t76 := Tryz.underlying385
  a76 := Tryz.isAgg385
  z76 := Tryz.sizeOf385
  v76 := Tryz.zeroValue385
  t109 := Tryz.underlying377
  a109 := Tryz.isAgg377
  z109 := Tryz.sizeOf377
  v109 := Tryz.zeroValue377
  t127 := Tryz.underlying361
  a127 := Tryz.isAgg361
  z127 := Tryz.sizeOf361
  v127 := Tryz.zeroValue361
  t146 := Tryz.underlying387
  a146 := Tryz.isAgg387
  z146 := Tryz.sizeOf387
  v146 := Tryz.zeroValue387
  t148 := Tryz.underlying389
  a148 := Tryz.isAgg389
  z148 := Tryz.sizeOf389
  v148 := Tryz.zeroValue389
  t164 := Tryz.underlying391
  a164 := Tryz.isAgg391
  z164 := Tryz.sizeOf391
  v164 := Tryz.zeroValue391 }
end Go.Proofs
