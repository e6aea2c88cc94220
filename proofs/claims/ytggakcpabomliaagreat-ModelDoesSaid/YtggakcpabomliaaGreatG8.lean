/- The proof of a given statement, a part of it (SortS). No condition but what each lemma says. -/
import Derived.Shelf.SlSortCmp.NoneTotal
import Derived.Ground.SlsfProg
import Derived.Test.YtggakcpabomliaaGreatProg
import Derived.Test.YtggakcpabomliaaGreatG7
set_option linter.unusedVariables false
set_option linter.unusedSimpArgs false
namespace Go.Proofs
open Go.Shelf
def Tryz.sortPlace_ren : Go.Shelf.Ren := ⟨fun | 6 => 173 | 15 => 199 | 14 => 198 | 28 => 225 | 29 => 226 | 20 => 217 | 21 => 218 | 22 => 219 | 23 => 220 | 24 => 221 | 25 => 222 | 26 => 223 | 27 => 224 | 46 => 230 | 47 => 231 | 48 => 232 | 49 => 233 | 50 => 234 | 57 => 235 | n => n, fun | 22 => 190 | 24 => 193 | 25 => 197 | 3 => 3 | 39 => 133 | 0 => 0 | 53 => 313 | 55 => 68 | 4 => 4 | 46 => 307 | 45 => 306 | 50 => 127 | 5 => 5 | 9 => 9 | 66 => 315 | 70 => 319 | 76 => 321 | 77 => 322 | n => n, fun | n => n⟩
theorem Tryz.sortPlace : Go.Proofs.SlLaysF0.n6 Tryz.prog Tryz.sortPlace_ren := {
  mixed := by kernel_rfl
  f6 := ⟨Tryz.f173.name, by decide, Tryz.func173.trans (congrArg some (by kernel_rfl))⟩
  f14 := ⟨Tryz.f198.name, by decide, Tryz.func198.trans (congrArg some (by kernel_rfl))⟩
  f15 := Tryz.func199.trans (congrArg some (by kernel_rfl))
  f20 := ⟨Tryz.f217.name, by decide, Tryz.func217.trans (congrArg some (by kernel_rfl))⟩
  f21 := ⟨Tryz.f218.name, by decide, Tryz.func218.trans (congrArg some (by kernel_rfl))⟩
  f22 := ⟨Tryz.f219.name, by decide, Tryz.func219.trans (congrArg some (by kernel_rfl))⟩
  f23 := ⟨Tryz.f220.name, by decide, Tryz.func220.trans (congrArg some (by kernel_rfl))⟩
  f24 := ⟨Tryz.f221.name, by decide, Tryz.func221.trans (congrArg some (by kernel_rfl))⟩
  f25 := ⟨Tryz.f222.name, by decide, Tryz.func222.trans (congrArg some (by kernel_rfl))⟩
  f26 := ⟨Tryz.f223.name, by decide, Tryz.func223.trans (congrArg some (by kernel_rfl))⟩
  f27 := ⟨Tryz.f224.name, by decide, Tryz.func224.trans (congrArg some (by kernel_rfl))⟩
  f28 := Tryz.func225.trans (congrArg some (by kernel_rfl))
  f29 := Tryz.func226.trans (congrArg some (by kernel_rfl))
  f46 := ⟨Tryz.f230.name, by decide, Tryz.func230.trans (congrArg some (by kernel_rfl))⟩
  f47 := Tryz.func231.trans (congrArg some (by kernel_rfl))
  f48 := Tryz.func232.trans (congrArg some (by kernel_rfl))
  f49 := ⟨Tryz.f233.name, by decide, Tryz.func233.trans (congrArg some (by kernel_rfl))⟩
  f50 := ⟨Tryz.f234.name, by decide, Tryz.func234.trans (congrArg some (by kernel_rfl))⟩
  f57 := ⟨Tryz.f235.name, by decide, Tryz.func235.trans (congrArg some (by kernel_rfl))⟩
  t0 := Tryz.underlying0
  a0 := Tryz.isAgg0
  z0 := Tryz.sizeOf0
  v0 := Tryz.zeroValue0
  t3 := Tryz.underlying3
  a3 := Tryz.isAgg3
  z3 := Tryz.sizeOf3
  v3 := Tryz.zeroValue3
  t4 := Tryz.underlying4
  a4 := Tryz.isAgg4
  z4 := Tryz.sizeOf4
  v4 := Tryz.zeroValue4
  t5 := Tryz.underlying5
  a5 := Tryz.isAgg5
  z5 := Tryz.sizeOf5
  v5 := Tryz.zeroValue5
  t9 := Tryz.underlying9
  a9 := Tryz.isAgg9
  z9 := Tryz.sizeOf9
  v9 := Tryz.zeroValue9
  t22 := Tryz.underlying190
  a22 := Tryz.isAgg190
  z22 := Tryz.sizeOf190
  v22 := Tryz.zeroValue190
  t25 := Tryz.underlying197
  a25 := Tryz.isAgg197
  z25 := Tryz.sizeOf197
  v25 := Tryz.zeroValue197
  t39 := Tryz.underlying133
  a39 := Tryz.isAgg133
  z39 := Tryz.sizeOf133
  v39 := Tryz.zeroValue133
  t45 := Tryz.underlying306
  a45 := Tryz.isAgg306
  z45 := Tryz.sizeOf306
  v45 := Tryz.zeroValue306
  t46 := Tryz.underlying307
  a46 := Tryz.isAgg307
  z46 := Tryz.sizeOf307
  v46 := Tryz.zeroValue307
  t50 := Tryz.underlying127
  a50 := Tryz.isAgg127
  z50 := Tryz.sizeOf127
  v50 := Tryz.zeroValue127
  t53 := Tryz.underlying313
  a53 := Tryz.isAgg313
  z53 := Tryz.sizeOf313
  v53 := Tryz.zeroValue313
  t55 := Tryz.underlying68
  a55 := Tryz.isAgg68
  z55 := Tryz.sizeOf68
  v55 := Tryz.zeroValue68
  t66 := Tryz.underlying315
  a66 := Tryz.isAgg315
  z66 := Tryz.sizeOf315
  v66 := Tryz.zeroValue315
  t70 := Tryz.underlying319
  a70 := Tryz.isAgg319
  z70 := Tryz.sizeOf319
  v70 := Tryz.zeroValue319
  t76 := Tryz.underlying321
  a76 := Tryz.isAgg321
  z76 := Tryz.sizeOf321
  v76 := Tryz.zeroValue321
  t77 := Tryz.underlying322
  a77 := Tryz.isAgg322
  z77 := Tryz.sizeOf322
  v77 := Tryz.zeroValue322 }
end Go.Proofs
