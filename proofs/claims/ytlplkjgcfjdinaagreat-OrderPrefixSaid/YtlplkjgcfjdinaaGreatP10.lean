/- The proof of a given statement, a part of it (RepS). No condition but what each lemma says. -/
import Derived.Shelf.Strings.Repeat
import Derived.Ground.NamesProg
import Derived.Test.YtlplkjgcfjdinaaGreatProg
import Derived.Test.YtlplkjgcfjdinaaGreatP9
set_option linter.unusedVariables false
set_option linter.unusedSimpArgs false
namespace Go.Proofs
open Go.Shelf
def Tryz.lays105_ren : Go.Shelf.Ren := ⟨fun | 105 => 219 | 212 => 220 | 99 => 221 | 165 => 222 | 166 => 223 | 170 => 224 | 169 => 225 | 263 => 226 | 264 => 227 | 206 => 228 | 240 => 229 | 241 => 230 | 276 => 231 | 277 => 232 | n => n, fun | 9 => 9 | 3 => 3 | 4 => 4 | 20 => 20 | 0 => 0 | 46 => 104 | 109 => 302 | 5 => 5 | 72 => 307 | 76 => 311 | 51 => 274 | 146 => 313 | 53 => 122 | 148 => 315 | 70 => 305 | 37 => 160 | 75 => 310 | 127 => 293 | 164 => 317 | 80 => 284 | n => n, fun | n => n⟩
theorem Tryz.lays105 : Go.Proofs.Lays.n105 Tryz.prog Tryz.lays105_ren := {
  mixed := by kernel_rfl
  f99 := Tryz.func221.trans (congrArg some (by kernel_rfl))
  f105 := Tryz.func219.trans (congrArg some (by kernel_rfl))
  f165 := Tryz.func222.trans (congrArg some (by kernel_rfl))
  f166 := Tryz.func223.trans (congrArg some (by kernel_rfl))
  f169 := Tryz.func225.trans (congrArg some (by kernel_rfl))
  f170 := Tryz.func224.trans (congrArg some (by kernel_rfl))
  f206 := Tryz.func228.trans (congrArg some (by kernel_rfl))
  f212 := Tryz.func220.trans (congrArg some (by kernel_rfl))
  f240 := Tryz.func229.trans (congrArg some (by kernel_rfl))
  f241 := Tryz.func230.trans (congrArg some (by kernel_rfl))
  f263 := Tryz.func226.trans (congrArg some (by kernel_rfl))
  f264 := Tryz.func227.trans (congrArg some (by kernel_rfl))
  f276 := Tryz.func231.trans (congrArg some (by kernel_rfl))
  f277 := Tryz.func232.trans (congrArg some (by kernel_rfl))
  t0 := Tryz.underlying0
  a0 := Tryz.isAgg0
  z0 := Tryz.sizeOf0
  v0 := Tryz.zeroValue0
  t3 := Tryz.underlying3
  a3 := Tryz.isAgg3
  z3 := Tryz.sizeOf3
  v3 := Tryz.zeroValue3
  t4 := Tryz.underlying4
  a4 := Tryz.isAgg4
  z4 := Tryz.sizeOf4
  v4 := Tryz.zeroValue4
  t5 := Tryz.underlying5
  a5 := Tryz.isAgg5
  z5 := Tryz.sizeOf5
  v5 := Tryz.zeroValue5
  t9 := Tryz.underlying9
  a9 := Tryz.isAgg9
  z9 := Tryz.sizeOf9
  v9 := Tryz.zeroValue9
  t20 := Tryz.underlying20
  a20 := Tryz.isAgg20
  z20 := Tryz.sizeOf20
  v20 := Tryz.zeroValue20
  t37 := Tryz.underlying160
  a37 := Tryz.isAgg160
  z37 := Tryz.sizeOf160
  v37 := Tryz.zeroValue160
  t46 := Tryz.underlying104
  a46 := Tryz.isAgg104
  z46 := Tryz.sizeOf104
  v46 := Tryz.zeroValue104
  t51 := Tryz.underlying274
  a51 := Tryz.isAgg274
  z51 := Tryz.sizeOf274
  v51 := Tryz.zeroValue274
  t53 := Tryz.underlying122
  a53 := Tryz.isAgg122
  z53 := Tryz.sizeOf122
  v53 := Tryz.zeroValue122
  t70 := Tryz.underlying305
  a70 := Tryz.isAgg305
  z70 := Tryz.sizeOf305
  v70 := Tryz.zeroValue305
  t72 := Tryz.underlying307
  a72 := Tryz.isAgg307
  z72 := Tryz.sizeOf307
  v72 := Tryz.zeroValue307
  t75 := Tryz.underlying310
  a75 := Tryz.isAgg310
  z75 := Tryz.sizeOf310
  v75 := Tryz.zeroValue310
  t76 := Tryz.underlying311
  a76 := Tryz.isAgg311
  z76 := Tryz.sizeOf311
  v76 := Tryz.zeroValue311
  t109 := Tryz.underlying302
  a109 := Tryz.isAgg302
  z109 := Tryz.sizeOf302
  v109 := Tryz.zeroValue302
  t127 := Tryz.underlying293
  a127 := Tryz.isAgg293
  z127 := Tryz.sizeOf293
  v127 := Tryz.zeroValue293
  t146 := Tryz.underlying313
  a146 := Tryz.isAgg313
  z146 := Tryz.sizeOf313
  v146 := Tryz.zeroValue313
  t148 := Tryz.underlying315
  a148 := Tryz.isAgg315
  z148 := Tryz.sizeOf315
  v148 := Tryz.zeroValue315
  t164 := Tryz.underlying317
  a164 := Tryz.isAgg317
  z164 := Tryz.sizeOf317
  v164 := Tryz.zeroValue317 }
end Go.Proofs
