/- The proof of a given statement, a part of it (SortS). No condition but what each lemma says. -/
import Derived.Shelf.SlSortCmp.NoneTotal
import Derived.Ground.SlsfProg
import Derived.Test.YtpnidmkaobfhiaaGreatProg
import Derived.Test.YtpnidmkaobfhiaaGreatM14
set_option linter.unusedVariables false
set_option linter.unusedSimpArgs false
namespace Go.Proofs
open Go.Shelf
def Tryz.sortPlace_ren : Go.Shelf.Ren := ⟨fun | 6 => 128 | 15 => 163 | 14 => 162 | 28 => 193 | 29 => 194 | 20 => 185 | 21 => 186 | 22 => 187 | 23 => 188 | 24 => 189 | 25 => 190 | 26 => 191 | 27 => 192 | 46 => 204 | 47 => 205 | 48 => 206 | 49 => 207 | 50 => 208 | 57 => 211 | n => n, fun | 22 => 206 | 24 => 210 | 25 => 214 | 3 => 3 | 39 => 236 | 0 => 0 | 53 => 335 | 55 => 208 | 4 => 4 | 46 => 329 | 45 => 328 | 50 => 76 | 5 => 5 | 9 => 9 | 66 => 340 | 70 => 137 | 76 => 348 | 77 => 349 | n => n, fun | n => n⟩
theorem Tryz.sortPlace : Go.Proofs.SlLaysF0.n6 Tryz.prog Tryz.sortPlace_ren := {
  mixed := by kernel_rfl
  f6 := ⟨Tryz.f128.name, by decide, Tryz.func128.trans (congrArg some (by kernel_rfl))⟩
  f14 := ⟨Tryz.f162.name, by decide, Tryz.func162.trans (congrArg some (by kernel_rfl))⟩
  f15 := Tryz.func163.trans (congrArg some (by kernel_rfl))
  f20 := ⟨Tryz.f185.name, by decide, Tryz.func185.trans (congrArg some (by kernel_rfl))⟩
  f21 := ⟨Tryz.f186.name, by decide, Tryz.func186.trans (congrArg some (by kernel_rfl))⟩
  f22 := ⟨Tryz.f187.name, by decide, Tryz.func187.trans (congrArg some (by kernel_rfl))⟩
  f23 := ⟨Tryz.f188.name, by decide, Tryz.func188.trans (congrArg some (by kernel_rfl))⟩
  f24 := ⟨Tryz.f189.name, by decide, Tryz.func189.trans (congrArg some (by kernel_rfl))⟩
  f25 := ⟨Tryz.f190.name, by decide, Tryz.func190.trans (congrArg some (by kernel_rfl))⟩
  f26 := ⟨Tryz.f191.name, by decide, Tryz.func191.trans (congrArg some (by kernel_rfl))⟩
  f27 := ⟨Tryz.f192.name, by decide, Tryz.func192.trans (congrArg some (by kernel_rfl))⟩
  f28 := Tryz.func193.trans (congrArg some (by kernel_rfl))
  f29 := Tryz.func194.trans (congrArg some (by kernel_rfl))
  f46 := ⟨Tryz.f204.name, by decide, Tryz.func204.trans (congrArg some (by kernel_rfl))⟩
  f47 := Tryz.func205.trans (congrArg some (by kernel_rfl))
  f48 := Tryz.func206.trans (congrArg some (by kernel_rfl))
  f49 := ⟨Tryz.f207.name, by decide, Tryz.func207.trans (congrArg some (by kernel_rfl))⟩
  f50 := ⟨Tryz.f208.name, by decide, Tryz.func208.trans (congrArg some (by kernel_rfl))⟩
  f57 := ⟨Tryz.f211.name, by decide, Tryz.func211.trans (congrArg some (by kernel_rfl))⟩
  t0 := Tryz.underlying0
  a0 := Tryz.isAgg0
  z0 := Tryz.sizeOf0
  v0 := Tryz.zeroValue0
  t3 := Tryz.underlying3
  a3 := Tryz.isAgg3
  z3 := Tryz.sizeOf3
  v3 := Tryz.zeroValue3
  t4 := Tryz.underlying4
  a4 := Tryz.isAgg4
  z4 := Tryz.sizeOf4
  v4 := Tryz.zeroValue4
  t5 := Tryz.underlying5
  a5 := Tryz.isAgg5
  z5 := Tryz.sizeOf5
  v5 := Tryz.zeroValue5
  t9 := Tryz.underlying9
  a9 := Tryz.isAgg9
  z9 := Tryz.sizeOf9
  v9 := Tryz.zeroValue9
  t22 := Tryz.underlying206
  a22 := Tryz.isAgg206
  z22 := Tryz.sizeOf206
  v22 := Tryz.zeroValue206
  t25 := Tryz.underlying214
  a25 := Tryz.isAgg214
  z25 := Tryz.sizeOf214
  v25 := Tryz.zeroValue214
  t39 := Tryz.underlying236
  a39 := Tryz.isAgg236
  z39 := Tryz.sizeOf236
  v39 := Tryz.zeroValue236
  t45 := Tryz.underlying328
  a45 := Tryz.isAgg328
  z45 := Tryz.sizeOf328
  v45 := Tryz.zeroValue328
  t46 := Tryz.underlying329
  a46 := Tryz.isAgg329
  z46 := Tryz.sizeOf329
  v46 := Tryz.zeroValue329
  t50 := Tryz.underlying76
  a50 := Tryz.isAgg76
  z50 := Tryz.sizeOf76
  v50 := Tryz.zeroValue76
  t53 := Tryz.underlying335
  a53 := Tryz.isAgg335
  z53 := Tryz.sizeOf335
  v53 := Tryz.zeroValue335
  t55 := Tryz.underlying208
  a55 := Tryz.isAgg208
  z55 := Tryz.sizeOf208
  v55 := Tryz.zeroValue208
  t66 := Tryz.underlying340
  a66 := Tryz.isAgg340
  z66 := Tryz.sizeOf340
  v66 := Tryz.zeroValue340
  t70 := Tryz.underlying137
  a70 := Tryz.isAgg137
  z70 := Tryz.sizeOf137
  v70 := Tryz.zeroValue137
  t76 := Tryz.underlying348
  a76 := Tryz.isAgg348
  z76 := Tryz.sizeOf348
  v76 := Tryz.zeroValue348
  t77 := Tryz.underlying349
  a77 := Tryz.isAgg349
  z77 := Tryz.sizeOf349
  v77 := Tryz.zeroValue349 }
end Go.Proofs
