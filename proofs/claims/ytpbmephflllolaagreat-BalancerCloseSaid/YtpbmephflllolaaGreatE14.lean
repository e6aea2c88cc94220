/- The proof of a given statement, a part of it (SortS). No condition but what each lemma says. -/
import Derived.Shelf.SlSortCmp.NoneTotal
import Derived.Ground.SlsfProg
import Derived.Test.YtpbmephflllolaaGreatProg
import Derived.Test.YtpbmephflllolaaGreatE13
set_option linter.unusedVariables false
set_option linter.unusedSimpArgs false
namespace Go.Proofs
open Go.Shelf
def Tryz.sortPlace_ren : Go.Shelf.Ren := ⟨fun | 6 => 158 | 15 => 204 | 14 => 203 | 28 => 234 | 29 => 235 | 20 => 226 | 21 => 227 | 22 => 228 | 23 => 229 | 24 => 230 | 25 => 231 | 26 => 232 | 27 => 233 | 46 => 240 | 47 => 241 | 48 => 242 | 49 => 243 | 50 => 244 | 57 => 246 | n => n, fun | 22 => 208 | 24 => 211 | 25 => 215 | 3 => 3 | 39 => 130 | 0 => 0 | 53 => 97 | 55 => 129 | 4 => 4 | 46 => 327 | 45 => 326 | 50 => 205 | 5 => 5 | 9 => 9 | 66 => 334 | 70 => 338 | 76 => 340 | 77 => 341 | n => n, fun | n => n⟩
theorem Tryz.sortPlace : Go.Proofs.SlLaysF0.n6 Tryz.prog Tryz.sortPlace_ren := {
  mixed := by kernel_rfl
  f6 := ⟨Tryz.f158.name, by decide, Tryz.func158.trans (congrArg some (by kernel_rfl))⟩
  f14 := ⟨Tryz.f203.name, by decide, Tryz.func203.trans (congrArg some (by kernel_rfl))⟩
  f15 := Tryz.func204.trans (congrArg some (by kernel_rfl))
  f20 := ⟨Tryz.f226.name, by decide, Tryz.func226.trans (congrArg some (by kernel_rfl))⟩
  f21 := ⟨Tryz.f227.name, by decide, Tryz.func227.trans (congrArg some (by kernel_rfl))⟩
  f22 := ⟨Tryz.f228.name, by decide, Tryz.func228.trans (congrArg some (by kernel_rfl))⟩
  f23 := ⟨Tryz.f229.name, by decide, Tryz.func229.trans (congrArg some (by kernel_rfl))⟩
  f24 := ⟨Tryz.f230.name, by decide, Tryz.func230.trans (congrArg some (by kernel_rfl))⟩
  f25 := ⟨Tryz.f231.name, by decide, Tryz.func231.trans (congrArg some (by kernel_rfl))⟩
  f26 := ⟨Tryz.f232.name, by decide, Tryz.func232.trans (congrArg some (by kernel_rfl))⟩
  f27 := ⟨Tryz.f233.name, by decide, Tryz.func233.trans (congrArg some (by kernel_rfl))⟩
  f28 := Tryz.func234.trans (congrArg some (by kernel_rfl))
  f29 := Tryz.func235.trans (congrArg some (by kernel_rfl))
  f46 := ⟨Tryz.f240.name, by decide, Tryz.func240.trans (congrArg some (by kernel_rfl))⟩
  f47 := Tryz.func241.trans (congrArg some (by kernel_rfl))
  f48 := Tryz.func242.trans (congrArg some (by kernel_rfl))
  f49 := ⟨Tryz.f243.name, by decide, Tryz.func243.trans (congrArg some (by kernel_rfl))⟩
  f50 := ⟨Tryz.f244.name, by decide, Tryz.func244.trans (congrArg some (by kernel_rfl))⟩
  f57 := ⟨Tryz.f246.name, by decide, Tryz.func246.trans (congrArg some (by kernel_rfl))⟩
  t0 := Tryz.underlying0
  a0 := Tryz.isAgg0
  z0 := Tryz.sizeOf0
  v0 := Tryz.zeroValue0
  t3 := Tryz.underlying3
  a3 := Tryz.isAgg3
  z3 := Tryz.sizeOf3
  v3 := Tryz.zeroValue3
  t4 := Tryz.underlying4
  a4 := Tryz.isAgg4
  z4 := Tryz.sizeOf4
  v4 := Tryz.zeroValue4
  t5 := Tryz.underlying5
  a5 := Tryz.isAgg5
  z5 := Tryz.sizeOf5
  v5 := Tryz.zeroValue5
  t9 := Tryz.underlying9
  a9 := Tryz.isAgg9
  z9 := Tryz.sizeOf9
  v9 := Tryz.zeroValue9
  t22 := Tryz.underlying208
  a22 := Tryz.isAgg208
  z22 := Tryz.sizeOf208
  v22 := Tryz.zeroValue208
  t25 := Tryz.underlying215
  a25 := Tryz.isAgg215
  z25 := Tryz.sizeOf215
  v25 := Tryz.zeroValue215
  t39 := Tryz.underlying130
  a39 := Tryz.isAgg130
  z39 := Tryz.sizeOf130
  v39 := Tryz.zeroValue130
  t45 := Tryz.underlying326
  a45 := Tryz.isAgg326
  z45 := Tryz.sizeOf326
  v45 := Tryz.zeroValue326
  t46 := Tryz.underlying327
  a46 := Tryz.isAgg327
  z46 := Tryz.sizeOf327
  v46 := Tryz.zeroValue327
  t50 := Tryz.underlying205
  a50 := Tryz.isAgg205
  z50 := Tryz.sizeOf205
  v50 := Tryz.zeroValue205
  t53 := Tryz.underlying97
  a53 := Tryz.isAgg97
  z53 := Tryz.sizeOf97
  v53 := Tryz.zeroValue97
  t55 := Tryz.underlying129
  a55 := Tryz.isAgg129
  z55 := Tryz.sizeOf129
  v55 := Tryz.zeroValue129
  t66 := Tryz.underlying334
  a66 := Tryz.isAgg334
  z66 := Tryz.sizeOf334
  v66 := Tryz.zeroValue334
  t70 := Tryz.underlying338
  a70 := Tryz.isAgg338
  z70 := Tryz.sizeOf338
  v70 := Tryz.zeroValue338
  t76 := Tryz.underlying340
  a76 := Tryz.isAgg340
  z76 := Tryz.sizeOf340
  v76 := Tryz.zeroValue340
  t77 := Tryz.underlying341
  a77 := Tryz.isAgg341
  z77 := Tryz.sizeOf341
  v77 := Tryz.zeroValue341 }
end Go.Proofs
