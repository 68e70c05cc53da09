/-
  DERIVED: THE SHELF's CONTRACTS AT THIS DUMP, IN PLAIN WORDS (tools/lay-plain.mjs out of 'YtmpngoejnmlmbaaGreatHist0.lean', which tools/lay-shelf.mjs wrote): THE SAME DECLARATIONS UNDER THE SAME NAMES: 'import', 'namespace', 'open', 'def', 'theorem' AND NOTHING ELSE: no command of the shelf's: FOR A HAND-IN. Each laying: the table of numbers ('.._ren') and one theorem, a field a fact of the dump's own or the kernel's comparison; each contract: ONE APPLICATION.
-/
import Derived.Shelf.SlIterI.Nil
import Derived.Shelf.SortM.Plain
import Derived.Shelf.SortM.SortNone
import Derived.Shelf.Slices.CompactI
import Derived.Ground.GgzProg
import Derived.Ground.SlgmProg
import Derived.Ground.Names2Prog
import Derived.Test.YtmpngoejnmlmbaaGreatProg
namespace Go.Proofs
open Go.Shelf
def Tryz.keysM_ren : Go.Shelf.Ren := ⟨fun | 7 => 107 | 10 => 133 | n => n, fun | 23 => 152 | 26 => 3 | 3 => 4 | 28 => 155 | 0 => 0 | 27 => 154 | 33 => 36 | 4 => 4 | n => n, fun | n => n⟩
theorem Tryz.keysM : Go.Proofs.SlLaysZI.n7 Tryz.prog Tryz.keysM_ren := {
  mixed := by kernel_rfl
  f7 := ⟨Tryz.f107.name, by decide, Tryz.func107.trans (congrArg some (by kernel_rfl))⟩
  f10 := ⟨Tryz.f133.name, by decide, Tryz.func133.trans (congrArg some (by kernel_rfl))⟩
  t0 := Tryz.underlying0
  a0 := Tryz.isAgg0
  z0 := Tryz.sizeOf0
  v0 := Tryz.zeroValue0
  t4 := Tryz.underlying4
  a4 := Tryz.isAgg4
  z4 := Tryz.sizeOf4
  v4 := Tryz.zeroValue4
  t23 := Tryz.underlying152
  a23 := Tryz.isAgg152
  z23 := Tryz.sizeOf152
  v23 := Tryz.zeroValue152
  t26 := Tryz.underlying3
  a26 := Tryz.isAgg3
  z26 := Tryz.sizeOf3
  v26 := Tryz.zeroValue3
  t27 := Tryz.underlying154
  a27 := Tryz.isAgg154
  z27 := Tryz.sizeOf154
  v27 := Tryz.zeroValue154
  t28 := Tryz.underlying155
  a28 := Tryz.isAgg155
  z28 := Tryz.sizeOf155
  v28 := Tryz.zeroValue155
  t33 := Tryz.underlying36
  a33 := Tryz.isAgg36
  z33 := Tryz.sizeOf36
  v33 := Tryz.zeroValue36 }
def Tryz.sortedM_ren : Go.Shelf.Ren := ⟨fun | 6 => 106 | 8 => 131 | 9 => 132 | 11 => 155 | 13 => 100 | 12 => 156 | 23 => 128 | 24 => 129 | 14 => 164 | 15 => 165 | 16 => 166 | 17 => 167 | 18 => 168 | 19 => 169 | 20 => 170 | 21 => 171 | 22 => 172 | 25 => 175 | 26 => 151 | 27 => 152 | 28 => 176 | 29 => 177 | 30 => 119 | 31 => 178 | n => n, fun | 26 => 3 | 28 => 155 | 24 => 22 | 0 => 0 | 3 => 3 | 37 => 41 | 48 => 68 | 50 => 174 | 4 => 4 | 40 => 167 | 39 => 166 | 45 => 141 | 5 => 5 | 9 => 9 | 51 => 187 | 55 => 191 | 57 => 199 | 58 => 200 | 33 => 36 | n => n, fun | n => n⟩
theorem Tryz.sortedM : Go.Proofs.SlLaysZI.n6 Tryz.prog Tryz.sortedM_ren := {
  mixed := by kernel_rfl
  f6 := ⟨Tryz.f106.name, by decide, Tryz.func106.trans (congrArg some (by kernel_rfl))⟩
  f8 := ⟨Tryz.f131.name, by decide, Tryz.func131.trans (congrArg some (by kernel_rfl))⟩
  f11 := ⟨Tryz.f155.name, by decide, Tryz.func155.trans (congrArg some (by kernel_rfl))⟩
  t0 := Tryz.underlying0
  a0 := Tryz.isAgg0
  z0 := Tryz.sizeOf0
  v0 := Tryz.zeroValue0
  t24 := Tryz.underlying22
  a24 := Tryz.isAgg22
  z24 := Tryz.sizeOf22
  v24 := Tryz.zeroValue22
  t26 := Tryz.underlying3
  a26 := Tryz.isAgg3
  z26 := Tryz.sizeOf3
  v26 := Tryz.zeroValue3
  t28 := Tryz.underlying155
  a28 := Tryz.isAgg155
  z28 := Tryz.sizeOf155
  v28 := Tryz.zeroValue155
  i26 := by kernel_rfl }
def Tryz.sortM_ren : Go.Shelf.Ren := ⟨fun | 5 => 132 | 8 => 100 | 7 => 156 | 19 => 128 | 20 => 129 | 10 => 164 | 11 => 165 | 12 => 166 | 13 => 167 | 14 => 168 | 15 => 169 | 16 => 170 | 17 => 171 | 18 => 172 | 30 => 175 | 31 => 151 | 32 => 152 | 33 => 176 | 34 => 177 | 35 => 119 | 40 => 178 | n => n, fun | 23 => 22 | 25 => 3 | 3 => 3 | 32 => 41 | 22 => 22 | 0 => 0 | 44 => 68 | 46 => 174 | 4 => 4 | 36 => 167 | 35 => 166 | 41 => 141 | 5 => 5 | 9 => 9 | 53 => 187 | 57 => 191 | 63 => 199 | 64 => 200 | n => n, fun | n => n⟩
theorem Tryz.sortM : Go.Proofs.SlLaysM.n5 Tryz.prog Tryz.sortM_ren := {
  mixed := by kernel_rfl
  f5 := ⟨Tryz.f132.name, by decide, Tryz.func132.trans (congrArg some (by kernel_rfl))⟩
  f7 := ⟨Tryz.f156.name, by decide, Tryz.func156.trans (congrArg some (by kernel_rfl))⟩
  f8 := Tryz.func100.trans (congrArg some (by kernel_rfl))
  f10 := ⟨Tryz.f164.name, by decide, Tryz.func164.trans (congrArg some (by kernel_rfl))⟩
  f11 := ⟨Tryz.f165.name, by decide, Tryz.func165.trans (congrArg some (by kernel_rfl))⟩
  f12 := ⟨Tryz.f166.name, by decide, Tryz.func166.trans (congrArg some (by kernel_rfl))⟩
  f13 := ⟨Tryz.f167.name, by decide, Tryz.func167.trans (congrArg some (by kernel_rfl))⟩
  f14 := ⟨Tryz.f168.name, by decide, Tryz.func168.trans (congrArg some (by kernel_rfl))⟩
  f15 := ⟨Tryz.f169.name, by decide, Tryz.func169.trans (congrArg some (by kernel_rfl))⟩
  f16 := ⟨Tryz.f170.name, by decide, Tryz.func170.trans (congrArg some (by kernel_rfl))⟩
  f17 := ⟨Tryz.f171.name, by decide, Tryz.func171.trans (congrArg some (by kernel_rfl))⟩
  f18 := ⟨Tryz.f172.name, by decide, Tryz.func172.trans (congrArg some (by kernel_rfl))⟩
  f19 := Tryz.func128.trans (congrArg some (by kernel_rfl))
  f20 := Tryz.func129.trans (congrArg some (by kernel_rfl))
  f30 := ⟨Tryz.f175.name, by decide, Tryz.func175.trans (congrArg some (by kernel_rfl))⟩
  f31 := Tryz.func151.trans (congrArg some (by kernel_rfl))
  f32 := Tryz.func152.trans (congrArg some (by kernel_rfl))
  f33 := ⟨Tryz.f176.name, by decide, Tryz.func176.trans (congrArg some (by kernel_rfl))⟩
  f34 := ⟨Tryz.f177.name, by decide, Tryz.func177.trans (congrArg some (by kernel_rfl))⟩
  f35 := ⟨Tryz.f119.name, by decide, Tryz.func119.trans (congrArg some (by kernel_rfl))⟩
  f40 := ⟨Tryz.f178.name, by decide, Tryz.func178.trans (congrArg some (by kernel_rfl))⟩
  t0 := Tryz.underlying0
  a0 := Tryz.isAgg0
  z0 := Tryz.sizeOf0
  v0 := Tryz.zeroValue0
  t3 := Tryz.underlying3
  a3 := Tryz.isAgg3
  z3 := Tryz.sizeOf3
  v3 := Tryz.zeroValue3
  t4 := Tryz.underlying4
  a4 := Tryz.isAgg4
  z4 := Tryz.sizeOf4
  v4 := Tryz.zeroValue4
  t5 := Tryz.underlying5
  a5 := Tryz.isAgg5
  z5 := Tryz.sizeOf5
  v5 := Tryz.zeroValue5
  t9 := Tryz.underlying9
  a9 := Tryz.isAgg9
  z9 := Tryz.sizeOf9
  v9 := Tryz.zeroValue9
  t22 := Tryz.underlying22
  a22 := Tryz.isAgg22
  z22 := Tryz.sizeOf22
  v22 := Tryz.zeroValue22
  t23 := Tryz.underlying22
  a23 := Tryz.isAgg22
  z23 := Tryz.sizeOf22
  v23 := Tryz.zeroValue22
  t25 := Tryz.underlying3
  a25 := Tryz.isAgg3
  z25 := Tryz.sizeOf3
  v25 := Tryz.zeroValue3
  t32 := Tryz.underlying41
  a32 := Tryz.isAgg41
  z32 := Tryz.sizeOf41
  v32 := Tryz.zeroValue41
  t35 := Tryz.underlying166
  a35 := Tryz.isAgg166
  z35 := Tryz.sizeOf166
  v35 := Tryz.zeroValue166
  t36 := Tryz.underlying167
  a36 := Tryz.isAgg167
  z36 := Tryz.sizeOf167
  v36 := Tryz.zeroValue167
  t41 := Tryz.underlying141
  a41 := Tryz.isAgg141
  z41 := Tryz.sizeOf141
  v41 := Tryz.zeroValue141
  t44 := Tryz.underlying68
  a44 := Tryz.isAgg68
  z44 := Tryz.sizeOf68
  v44 := Tryz.zeroValue68
  t46 := Tryz.underlying174
  a46 := Tryz.isAgg174
  z46 := Tryz.sizeOf174
  v46 := Tryz.zeroValue174
  t53 := Tryz.underlying187
  a53 := Tryz.isAgg187
  z53 := Tryz.sizeOf187
  v53 := Tryz.zeroValue187
  t57 := Tryz.underlying191
  a57 := Tryz.isAgg191
  z57 := Tryz.sizeOf191
  v57 := Tryz.zeroValue191
  t63 := Tryz.underlying199
  a63 := Tryz.isAgg199
  z63 := Tryz.sizeOf199
  v63 := Tryz.zeroValue199
  t64 := Tryz.underlying200
  a64 := Tryz.isAgg200
  z64 := Tryz.sizeOf200
  v64 := Tryz.zeroValue200 }
def Tryz.compactM_ren : Go.Shelf.Ren := ⟨fun | 20 => 74 | n => n, fun | 22 => 22 | 3 => 3 | 4 => 4 | 0 => 0 | n => n, fun | n => n⟩
theorem Tryz.compactM : Go.Proofs.Lays2.n20 Tryz.prog Tryz.compactM_ren := {
  mixed := by kernel_rfl
  f20 := Tryz.func74.trans (congrArg some (by kernel_rfl))
  t0 := Tryz.underlying0
  a0 := Tryz.isAgg0
  z0 := Tryz.sizeOf0
  v0 := Tryz.zeroValue0
  t3 := Tryz.underlying3
  a3 := Tryz.isAgg3
  z3 := Tryz.sizeOf3
  v3 := Tryz.zeroValue3
  t4 := Tryz.underlying4
  a4 := Tryz.isAgg4
  z4 := Tryz.sizeOf4
  v4 := Tryz.zeroValue4
  t22 := Tryz.underlying22
  a22 := Tryz.isAgg22
  z22 := Tryz.sizeOf22
  v22 := Tryz.zeroValue22
  i3 := by kernel_rfl }
end Go.Proofs
