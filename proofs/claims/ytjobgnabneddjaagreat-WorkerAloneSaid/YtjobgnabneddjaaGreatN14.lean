/- The proof of a given statement, a part of it (SortS). No condition but what each lemma says. -/
import Derived.Shelf.SlSortCmp.NoneTotal
import Derived.Ground.SlsfProg
import Derived.Test.YtjobgnabneddjaaGreatProg
import Derived.Test.YtjobgnabneddjaaGreatN13
set_option linter.unusedVariables false
set_option linter.unusedSimpArgs false
namespace Go.Proofs
open Go.Shelf
def Tryz.sortPlace_ren : Go.Shelf.Ren := ⟨fun | 6 => 213 | 15 => 250 | 14 => 249 | 28 => 277 | 29 => 278 | 20 => 269 | 21 => 270 | 22 => 271 | 23 => 272 | 24 => 273 | 25 => 274 | 26 => 275 | 27 => 276 | 46 => 287 | 47 => 288 | 48 => 289 | 49 => 290 | 50 => 291 | 57 => 295 | n => n, fun | 22 => 281 | 24 => 284 | 25 => 288 | 3 => 3 | 39 => 242 | 0 => 0 | 53 => 408 | 55 => 89 | 4 => 4 | 46 => 402 | 45 => 401 | 50 => 90 | 5 => 5 | 9 => 9 | 66 => 417 | 70 => 131 | 76 => 423 | 77 => 424 | n => n, fun | n => n⟩
theorem Tryz.sortPlace : Go.Proofs.SlLaysF0.n6 Tryz.prog Tryz.sortPlace_ren := {
  mixed := by kernel_rfl
  f6 := ⟨Tryz.f213.name, by decide, Tryz.func213.trans (congrArg some (by kernel_rfl))⟩
  f14 := ⟨Tryz.f249.name, by decide, Tryz.func249.trans (congrArg some (by kernel_rfl))⟩
  f15 := Tryz.func250.trans (congrArg some (by kernel_rfl))
  f20 := ⟨Tryz.f269.name, by decide, Tryz.func269.trans (congrArg some (by kernel_rfl))⟩
  f21 := ⟨Tryz.f270.name, by decide, Tryz.func270.trans (congrArg some (by kernel_rfl))⟩
  f22 := ⟨Tryz.f271.name, by decide, Tryz.func271.trans (congrArg some (by kernel_rfl))⟩
  f23 := ⟨Tryz.f272.name, by decide, Tryz.func272.trans (congrArg some (by kernel_rfl))⟩
  f24 := ⟨Tryz.f273.name, by decide, Tryz.func273.trans (congrArg some (by kernel_rfl))⟩
  f25 := ⟨Tryz.f274.name, by decide, Tryz.func274.trans (congrArg some (by kernel_rfl))⟩
  f26 := ⟨Tryz.f275.name, by decide, Tryz.func275.trans (congrArg some (by kernel_rfl))⟩
  f27 := ⟨Tryz.f276.name, by decide, Tryz.func276.trans (congrArg some (by kernel_rfl))⟩
  f28 := Tryz.func277.trans (congrArg some (by kernel_rfl))
  f29 := Tryz.func278.trans (congrArg some (by kernel_rfl))
  f46 := ⟨Tryz.f287.name, by decide, Tryz.func287.trans (congrArg some (by kernel_rfl))⟩
  f47 := Tryz.func288.trans (congrArg some (by kernel_rfl))
  f48 := Tryz.func289.trans (congrArg some (by kernel_rfl))
  f49 := ⟨Tryz.f290.name, by decide, Tryz.func290.trans (congrArg some (by kernel_rfl))⟩
  f50 := ⟨Tryz.f291.name, by decide, Tryz.func291.trans (congrArg some (by kernel_rfl))⟩
  f57 := ⟨Tryz.f295.name, by decide, Tryz.func295.trans (congrArg some (by kernel_rfl))⟩
  t0 := Tryz.underlying0
  a0 := Tryz.isAgg0
  z0 := Tryz.sizeOf0
  v0 := Tryz.zeroValue0
  t3 := Tryz.underlying3
  a3 := Tryz.isAgg3
  z3 := Tryz.sizeOf3
  v3 := Tryz.zeroValue3
  t4 := Tryz.underlying4
  a4 := Tryz.isAgg4
  z4 := Tryz.sizeOf4
  v4 := Tryz.zeroValue4
  t5 := Tryz.underlying5
  a5 := Tryz.isAgg5
  z5 := Tryz.sizeOf5
  v5 := Tryz.zeroValue5
  t9 := Tryz.underlying9
  a9 := Tryz.isAgg9
  z9 := Tryz.sizeOf9
  v9 := Tryz.zeroValue9
  t22 := Tryz.underlying281
  a22 := Tryz.isAgg281
  z22 := Tryz.sizeOf281
  v22 := Tryz.zeroValue281
  t25 := Tryz.underlying288
  a25 := Tryz.isAgg288
  z25 := Tryz.sizeOf288
  v25 := Tryz.zeroValue288
  t39 := Tryz.underlying242
  a39 := Tryz.isAgg242
  z39 := Tryz.sizeOf242
  v39 := Tryz.zeroValue242
  t45 := Tryz.underlying401
  a45 := Tryz.isAgg401
  z45 := Tryz.sizeOf401
  v45 := Tryz.zeroValue401
  t46 := Tryz.underlying402
  a46 := Tryz.isAgg402
  z46 := Tryz.sizeOf402
  v46 := Tryz.zeroValue402
  t50 := Tryz.underlying90
  a50 := Tryz.isAgg90
  z50 := Tryz.sizeOf90
  v50 := Tryz.zeroValue90
  t53 := Tryz.underlying408
  a53 := Tryz.isAgg408
  z53 := Tryz.sizeOf408
  v53 := Tryz.zeroValue408
  t55 := Tryz.underlying89
  a55 := Tryz.isAgg89
  z55 := Tryz.sizeOf89
  v55 := Tryz.zeroValue89
  t66 := Tryz.underlying417
  a66 := Tryz.isAgg417
  z66 := Tryz.sizeOf417
  v66 := Tryz.zeroValue417
  t70 := Tryz.underlying131
  a70 := Tryz.isAgg131
  z70 := Tryz.sizeOf131
  v70 := Tryz.zeroValue131
  t76 := Tryz.underlying423
  a76 := Tryz.isAgg423
  z76 := Tryz.sizeOf423
  v76 := Tryz.zeroValue423
  t77 := Tryz.underlying424
  a77 := Tryz.isAgg424
  z77 := Tryz.sizeOf424
  v77 := Tryz.zeroValue424 }
end Go.Proofs
