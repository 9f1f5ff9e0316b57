/-
  DERIVED: THE SHELF's CONTRACTS AT THIS DUMP, IN PLAIN WORDS (tools/lay-plain.mjs out of 'TryzIter.lean', which tools/lay-shelf.mjs wrote): THE SAME DECLARATIONS UNDER THE SAME NAMES: 'import', 'namespace', 'open', 'def', 'theorem' AND NOTHING ELSE: no command of the shelf's: FOR A HAND-IN. Each laying: the table of numbers ('.._ren') and one theorem, a field a fact of the dump's own or the kernel's comparison; each contract: ONE APPLICATION.
-/
import Derived.Shelf.SlIterI.Nil
import Derived.Shelf.SortM.Plain
import Derived.Shelf.SortM.SortNone
import Derived.Shelf.SlGeneric
import Derived.Ground.GgzProg
import Derived.Ground.SlgmProg
import Derived.Test.YtmakanmjdfpcmaaGreatProg
namespace Go.Proofs
open Go.Shelf
def Tryz.keysF_ren : Go.Shelf.Ren := ⟨fun | 7 => 154 | 10 => 206 | n => n, fun | 23 => 138 | 26 => 3 | 3 => 192 | 28 => 245 | 0 => 0 | 27 => 244 | 33 => 59 | 4 => 4 | n => n, fun | n => n⟩
theorem Tryz.keysF : Go.Proofs.SlLaysZI.n7 Tryz.prog Tryz.keysF_ren := {
  mixed := by kernel_rfl
  f7 := ⟨Tryz.f154.name, by decide, Tryz.func154.trans (congrArg some (by kernel_rfl))⟩
  f10 := ⟨Tryz.f206.name, by decide, Tryz.func206.trans (congrArg some (by kernel_rfl))⟩
  t0 := Tryz.underlying0
  a0 := Tryz.isAgg0
  z0 := Tryz.sizeOf0
  v0 := Tryz.zeroValue0
  t4 := Tryz.underlying4
  a4 := Tryz.isAgg4
  z4 := Tryz.sizeOf4
  v4 := Tryz.zeroValue4
  t23 := Tryz.underlying138
  a23 := Tryz.isAgg138
  z23 := Tryz.sizeOf138
  v23 := Tryz.zeroValue138
  t26 := Tryz.underlying3
  a26 := Tryz.isAgg3
  z26 := Tryz.sizeOf3
  v26 := Tryz.zeroValue3
  t27 := Tryz.underlying244
  a27 := Tryz.isAgg244
  z27 := Tryz.sizeOf244
  v27 := Tryz.zeroValue244
  t28 := Tryz.underlying245
  a28 := Tryz.isAgg245
  z28 := Tryz.sizeOf245
  v28 := Tryz.zeroValue245
  t33 := Tryz.underlying59
  a33 := Tryz.isAgg59
  z33 := Tryz.sizeOf59
  v33 := Tryz.zeroValue59 }
def Tryz.sortedF_ren : Go.Shelf.Ren := ⟨fun | 6 => 153 | 8 => 204 | 9 => 205 | 11 => 251 | 13 => 119 | 12 => 252 | 23 => 180 | 24 => 181 | 14 => 296 | 15 => 297 | 16 => 298 | 17 => 299 | 18 => 300 | 19 => 301 | 20 => 302 | 21 => 303 | 22 => 304 | 25 => 339 | 26 => 222 | 27 => 223 | 28 => 340 | 29 => 341 | 30 => 249 | 31 => 351 | n => n, fun | 26 => 3 | 28 => 245 | 24 => 22 | 0 => 0 | 3 => 3 | 37 => 148 | 48 => 150 | 50 => 149 | 4 => 4 | 40 => 258 | 39 => 257 | 45 => 263 | 5 => 5 | 9 => 9 | 51 => 306 | 55 => 310 | 57 => 362 | 58 => 363 | 33 => 59 | n => n, fun | n => n⟩
theorem Tryz.sortedF : Go.Proofs.SlLaysZI.n6 Tryz.prog Tryz.sortedF_ren := {
  mixed := by kernel_rfl
  f6 := ⟨Tryz.f153.name, by decide, Tryz.func153.trans (congrArg some (by kernel_rfl))⟩
  f8 := ⟨Tryz.f204.name, by decide, Tryz.func204.trans (congrArg some (by kernel_rfl))⟩
  f11 := ⟨Tryz.f251.name, by decide, Tryz.func251.trans (congrArg some (by kernel_rfl))⟩
  t0 := Tryz.underlying0
  a0 := Tryz.isAgg0
  z0 := Tryz.sizeOf0
  v0 := Tryz.zeroValue0
  t24 := Tryz.underlying22
  a24 := Tryz.isAgg22
  z24 := Tryz.sizeOf22
  v24 := Tryz.zeroValue22
  t26 := Tryz.underlying3
  a26 := Tryz.isAgg3
  z26 := Tryz.sizeOf3
  v26 := Tryz.zeroValue3
  t28 := Tryz.underlying245
  a28 := Tryz.isAgg245
  z28 := Tryz.sizeOf245
  v28 := Tryz.zeroValue245
  i26 := by kernel_rfl }
def Tryz.sortF_ren : Go.Shelf.Ren := ⟨fun | 5 => 205 | 8 => 119 | 7 => 252 | 19 => 180 | 20 => 181 | 10 => 296 | 11 => 297 | 12 => 298 | 13 => 299 | 14 => 300 | 15 => 301 | 16 => 302 | 17 => 303 | 18 => 304 | 30 => 339 | 31 => 222 | 32 => 223 | 33 => 340 | 34 => 341 | 35 => 249 | 40 => 351 | n => n, fun | 23 => 22 | 25 => 3 | 3 => 3 | 32 => 148 | 22 => 22 | 0 => 0 | 44 => 150 | 46 => 149 | 4 => 4 | 36 => 258 | 35 => 257 | 41 => 263 | 5 => 5 | 9 => 9 | 53 => 306 | 57 => 310 | 63 => 362 | 64 => 363 | n => n, fun | n => n⟩
theorem Tryz.sortF : Go.Proofs.SlLaysM.n5 Tryz.prog Tryz.sortF_ren := {
  mixed := by kernel_rfl
  f5 := ⟨Tryz.f205.name, by decide, Tryz.func205.trans (congrArg some (by kernel_rfl))⟩
  f7 := ⟨Tryz.f252.name, by decide, Tryz.func252.trans (congrArg some (by kernel_rfl))⟩
  f8 := Tryz.func119.trans (congrArg some (by kernel_rfl))
  f10 := ⟨Tryz.f296.name, by decide, Tryz.func296.trans (congrArg some (by kernel_rfl))⟩
  f11 := ⟨Tryz.f297.name, by decide, Tryz.func297.trans (congrArg some (by kernel_rfl))⟩
  f12 := ⟨Tryz.f298.name, by decide, Tryz.func298.trans (congrArg some (by kernel_rfl))⟩
  f13 := ⟨Tryz.f299.name, by decide, Tryz.func299.trans (congrArg some (by kernel_rfl))⟩
  f14 := ⟨Tryz.f300.name, by decide, Tryz.func300.trans (congrArg some (by kernel_rfl))⟩
  f15 := ⟨Tryz.f301.name, by decide, Tryz.func301.trans (congrArg some (by kernel_rfl))⟩
  f16 := ⟨Tryz.f302.name, by decide, Tryz.func302.trans (congrArg some (by kernel_rfl))⟩
  f17 := ⟨Tryz.f303.name, by decide, Tryz.func303.trans (congrArg some (by kernel_rfl))⟩
  f18 := ⟨Tryz.f304.name, by decide, Tryz.func304.trans (congrArg some (by kernel_rfl))⟩
  f19 := Tryz.func180.trans (congrArg some (by kernel_rfl))
  f20 := Tryz.func181.trans (congrArg some (by kernel_rfl))
  f30 := ⟨Tryz.f339.name, by decide, Tryz.func339.trans (congrArg some (by kernel_rfl))⟩
  f31 := Tryz.func222.trans (congrArg some (by kernel_rfl))
  f32 := Tryz.func223.trans (congrArg some (by kernel_rfl))
  f33 := ⟨Tryz.f340.name, by decide, Tryz.func340.trans (congrArg some (by kernel_rfl))⟩
  f34 := ⟨Tryz.f341.name, by decide, Tryz.func341.trans (congrArg some (by kernel_rfl))⟩
  f35 := ⟨Tryz.f249.name, by decide, Tryz.func249.trans (congrArg some (by kernel_rfl))⟩
  f40 := ⟨Tryz.f351.name, by decide, Tryz.func351.trans (congrArg some (by kernel_rfl))⟩
  t0 := Tryz.underlying0
  a0 := Tryz.isAgg0
  z0 := Tryz.sizeOf0
  v0 := Tryz.zeroValue0
  t3 := Tryz.underlying3
  a3 := Tryz.isAgg3
  z3 := Tryz.sizeOf3
  v3 := Tryz.zeroValue3
  t4 := Tryz.underlying4
  a4 := Tryz.isAgg4
  z4 := Tryz.sizeOf4
  v4 := Tryz.zeroValue4
  t5 := Tryz.underlying5
  a5 := Tryz.isAgg5
  z5 := Tryz.sizeOf5
  v5 := Tryz.zeroValue5
  t9 := Tryz.underlying9
  a9 := Tryz.isAgg9
  z9 := Tryz.sizeOf9
  v9 := Tryz.zeroValue9
  t22 := Tryz.underlying22
  a22 := Tryz.isAgg22
  z22 := Tryz.sizeOf22
  v22 := Tryz.zeroValue22
  t23 := Tryz.underlying22
  a23 := Tryz.isAgg22
  z23 := Tryz.sizeOf22
  v23 := Tryz.zeroValue22
  t25 := Tryz.underlying3
  a25 := Tryz.isAgg3
  z25 := Tryz.sizeOf3
  v25 := Tryz.zeroValue3
  t32 := Tryz.underlying148
  a32 := Tryz.isAgg148
  z32 := Tryz.sizeOf148
  v32 := Tryz.zeroValue148
  t35 := Tryz.underlying257
  a35 := Tryz.isAgg257
  z35 := Tryz.sizeOf257
  v35 := Tryz.zeroValue257
  t36 := Tryz.underlying258
  a36 := Tryz.isAgg258
  z36 := Tryz.sizeOf258
  v36 := Tryz.zeroValue258
  t41 := Tryz.underlying263
  a41 := Tryz.isAgg263
  z41 := Tryz.sizeOf263
  v41 := Tryz.zeroValue263
  t44 := Tryz.underlying150
  a44 := Tryz.isAgg150
  z44 := Tryz.sizeOf150
  v44 := Tryz.zeroValue150
  t46 := Tryz.underlying149
  a46 := Tryz.isAgg149
  z46 := Tryz.sizeOf149
  v46 := Tryz.zeroValue149
  t53 := Tryz.underlying306
  a53 := Tryz.isAgg306
  z53 := Tryz.sizeOf306
  v53 := Tryz.zeroValue306
  t57 := Tryz.underlying310
  a57 := Tryz.isAgg310
  z57 := Tryz.sizeOf310
  v57 := Tryz.zeroValue310
  t63 := Tryz.underlying362
  a63 := Tryz.isAgg362
  z63 := Tryz.sizeOf362
  v63 := Tryz.zeroValue362
  t64 := Tryz.underlying363
  a64 := Tryz.isAgg363
  z64 := Tryz.sizeOf363
  v64 := Tryz.zeroValue363 }
end Go.Proofs
