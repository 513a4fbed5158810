/-
  DERIVED: THE SHELF's CONTRACTS AT THIS DUMP, IN PLAIN WORDS (tools/lay-plain.mjs out of 'TrydShelf.lean', which tools/lay-shelf.mjs wrote): THE SAME DECLARATIONS UNDER THE SAME NAMES: 'import', 'namespace', 'open', 'def', 'theorem' AND NOTHING ELSE: no command of the shelf's: FOR A HAND-IN. Each laying: the table of numbers ('.._ren') and one theorem, a field a fact of the dump's own or the kernel's comparison; each contract: ONE APPLICATION.
-/
import Derived.Shelf.SlSortCmp.WholeK
import Derived.Ground.SlsfProg
import Derived.Test.YtifcgjnknikjkaaDoorProg
namespace Go.Proofs
open Go.Shelf
def Tryd.sortV_ren : Go.Shelf.Ren := ⟨fun | 6 => 73 | 15 => 92 | 14 => 91 | 28 => 105 | 29 => 106 | 20 => 97 | 21 => 98 | 22 => 99 | 23 => 100 | 24 => 101 | 25 => 102 | 26 => 103 | 27 => 104 | 46 => 108 | 47 => 109 | 48 => 110 | 49 => 111 | 50 => 112 | 57 => 113 | n => n, fun | 22 => 23 | 24 => 62 | 25 => 135 | 3 => 3 | 39 => 45 | 0 => 0 | 53 => 175 | 55 => 26 | 4 => 4 | 46 => 168 | 45 => 167 | 50 => 172 | 5 => 5 | 9 => 9 | 66 => 177 | 70 => 180 | 76 => 182 | 77 => 183 | n => n, fun | n => n⟩
theorem Tryd.sortV : Go.Proofs.SlLaysF0.n6 Tryd.prog Tryd.sortV_ren := {
  mixed := by kernel_rfl
  f6 := ⟨Tryd.f73.name, by decide, Tryd.func73.trans (congrArg some (by kernel_rfl))⟩
  f14 := ⟨Tryd.f91.name, by decide, Tryd.func91.trans (congrArg some (by kernel_rfl))⟩
  f15 := Tryd.func92.trans (congrArg some (by kernel_rfl))
  f20 := ⟨Tryd.f97.name, by decide, Tryd.func97.trans (congrArg some (by kernel_rfl))⟩
  f21 := ⟨Tryd.f98.name, by decide, Tryd.func98.trans (congrArg some (by kernel_rfl))⟩
  f22 := ⟨Tryd.f99.name, by decide, Tryd.func99.trans (congrArg some (by kernel_rfl))⟩
  f23 := ⟨Tryd.f100.name, by decide, Tryd.func100.trans (congrArg some (by kernel_rfl))⟩
  f24 := ⟨Tryd.f101.name, by decide, Tryd.func101.trans (congrArg some (by kernel_rfl))⟩
  f25 := ⟨Tryd.f102.name, by decide, Tryd.func102.trans (congrArg some (by kernel_rfl))⟩
  f26 := ⟨Tryd.f103.name, by decide, Tryd.func103.trans (congrArg some (by kernel_rfl))⟩
  f27 := ⟨Tryd.f104.name, by decide, Tryd.func104.trans (congrArg some (by kernel_rfl))⟩
  f28 := Tryd.func105.trans (congrArg some (by kernel_rfl))
  f29 := Tryd.func106.trans (congrArg some (by kernel_rfl))
  f46 := ⟨Tryd.f108.name, by decide, Tryd.func108.trans (congrArg some (by kernel_rfl))⟩
  f47 := Tryd.func109.trans (congrArg some (by kernel_rfl))
  f48 := Tryd.func110.trans (congrArg some (by kernel_rfl))
  f49 := ⟨Tryd.f111.name, by decide, Tryd.func111.trans (congrArg some (by kernel_rfl))⟩
  f50 := ⟨Tryd.f112.name, by decide, Tryd.func112.trans (congrArg some (by kernel_rfl))⟩
  f57 := ⟨Tryd.f113.name, by decide, Tryd.func113.trans (congrArg some (by kernel_rfl))⟩
  t0 := Tryd.underlying0
  a0 := Tryd.isAgg0
  z0 := Tryd.sizeOf0
  v0 := Tryd.zeroValue0
  t3 := Tryd.underlying3
  a3 := Tryd.isAgg3
  z3 := Tryd.sizeOf3
  v3 := Tryd.zeroValue3
  t4 := Tryd.underlying4
  a4 := Tryd.isAgg4
  z4 := Tryd.sizeOf4
  v4 := Tryd.zeroValue4
  t5 := Tryd.underlying5
  a5 := Tryd.isAgg5
  z5 := Tryd.sizeOf5
  v5 := Tryd.zeroValue5
  t9 := Tryd.underlying9
  a9 := Tryd.isAgg9
  z9 := Tryd.sizeOf9
  v9 := Tryd.zeroValue9
  t22 := Tryd.underlying23
  a22 := Tryd.isAgg23
  z22 := Tryd.sizeOf23
  v22 := Tryd.zeroValue23
  t25 := Tryd.underlying135
  a25 := Tryd.isAgg135
  z25 := Tryd.sizeOf135
  v25 := Tryd.zeroValue135
  t39 := Tryd.underlying45
  a39 := Tryd.isAgg45
  z39 := Tryd.sizeOf45
  v39 := Tryd.zeroValue45
  t45 := Tryd.underlying167
  a45 := Tryd.isAgg167
  z45 := Tryd.sizeOf167
  v45 := Tryd.zeroValue167
  t46 := Tryd.underlying168
  a46 := Tryd.isAgg168
  z46 := Tryd.sizeOf168
  v46 := Tryd.zeroValue168
  t50 := Tryd.underlying172
  a50 := Tryd.isAgg172
  z50 := Tryd.sizeOf172
  v50 := Tryd.zeroValue172
  t53 := Tryd.underlying175
  a53 := Tryd.isAgg175
  z53 := Tryd.sizeOf175
  v53 := Tryd.zeroValue175
  t55 := Tryd.underlying26
  a55 := Tryd.isAgg26
  z55 := Tryd.sizeOf26
  v55 := Tryd.zeroValue26
  t66 := Tryd.underlying177
  a66 := Tryd.isAgg177
  z66 := Tryd.sizeOf177
  v66 := Tryd.zeroValue177
  t70 := Tryd.underlying180
  a70 := Tryd.isAgg180
  z70 := Tryd.sizeOf180
  v70 := Tryd.zeroValue180
  t76 := Tryd.underlying182
  a76 := Tryd.isAgg182
  z76 := Tryd.sizeOf182
  v76 := Tryd.zeroValue182
  t77 := Tryd.underlying183
  a77 := Tryd.isAgg183
  z77 := Tryd.sizeOf183
  v77 := Tryd.zeroValue183 }
end Go.Proofs
