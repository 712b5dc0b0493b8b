/-
 DERIVED: THE SHELF's CONTRACTS AT THIS DUMP, IN PLAIN WORDS (tools/lay-plain.mjs out of 'YtjllbchfojonhaaGreatDoorShelf.lean', which tools/lay-shelf.mjs wrote): THE SAME DECLARATIONS UNDER THE SAME NAMES: 'import', 'namespace', 'open', 'def', 'theorem' AND NOTHING ELSE: no command of the shelf's: FOR A HAND-IN. Each laying: the table of numbers ('.._ren') and one theorem, a field a fact of the dump's own or the kernel's comparison; each contract: ONE APPLICATION.
-/
import Derived.Shelf.SlGeneric
import Derived.Ground.NamesProg
import Derived.Ground.SlgfProg
import Derived.Shelf.SlicesQ.IndexFunc
import Derived.Shelf.SlicesE.IndexFunc
import Derived.Shelf.Unicode.PredsAny
import Derived.Test.YtjllbchfojonhaaGreatDoorProg
namespace Go.Proofs
open Go.Shelf
def Tryz.lays200_ren : Go.Shelf.Ren := ⟨fun | 200 => 113 | 261 => 135 | 311 => 138 | 312 => 139 | n => n, fun | 21 => 21 | 4 => 4 | 51 => 186 | 5 => 5 | 119 => 196 | 0 => 0 | 141 => 198 | 196 => 203 | 193 => 200 | 3 => 3 | 198 => 205 | 49 => 58 | 194 => 201 | 201 => 208 | 226 => 211 | 46 => 156 | 227 => 212 | n => n, fun | 7 => 0 | 8 => 1 | n => n⟩
theorem Tryz.lays200 : Go.Proofs.Lays.n200 Tryz.prog Tryz.lays200_ren := {
 mixed := by kernel_rfl
 f200 := Tryz.func113.trans (congrArg some (by kernel_rfl))
 f261 := Tryz.func135.trans (congrArg some (by kernel_rfl))
 f311 := Tryz.func138.trans (congrArg some (by kernel_rfl))
 f312 := Tryz.func139.trans (congrArg some (by kernel_rfl))
 t0 := Tryz.underlying0
 a0 := Tryz.isAgg0
 z0 := Tryz.sizeOf0
 v0 := Tryz.zeroValue0
 t3 := Tryz.underlying3
 a3 := Tryz.isAgg3
 z3 := Tryz.sizeOf3
 v3 := Tryz.zeroValue3
 t4 := Tryz.underlying4
 a4 := Tryz.isAgg4
 z4 := Tryz.sizeOf4
 v4 := Tryz.zeroValue4
 t5 := Tryz.underlying5
 a5 := Tryz.isAgg5
 z5 := Tryz.sizeOf5
 v5 := Tryz.zeroValue5
 t21 := Tryz.underlying21
 a21 := Tryz.isAgg21
 z21 := Tryz.sizeOf21
 v21 := Tryz.zeroValue21
 t46 := Tryz.underlying156
 a46 := Tryz.isAgg156
 z46 := Tryz.sizeOf156
 v46 := Tryz.zeroValue156
 t49 := Tryz.underlying58
 a49 := Tryz.isAgg58
 z49 := Tryz.sizeOf58
 v49 := Tryz.zeroValue58
 t51 := Tryz.underlying186
 a51 := Tryz.isAgg186
 z51 := Tryz.sizeOf186
 v51 := Tryz.zeroValue186
 t119 := Tryz.underlying196
 a119 := Tryz.isAgg196
 z119 := Tryz.sizeOf196
 t141 := Tryz.underlying198
 a141 := Tryz.isAgg198
 z141 := Tryz.sizeOf198
 v141 := Tryz.zeroValue198
 t193 := Tryz.underlying200
 a193 := Tryz.isAgg200
 z193 := Tryz.sizeOf200
 v193 := Tryz.zeroValue200
 t194 := Tryz.underlying201
 a194 := Tryz.isAgg201
 z194 := Tryz.sizeOf201
 v194 := Tryz.zeroValue201
 t196 := Tryz.underlying203
 a196 := Tryz.isAgg203
 z196 := Tryz.sizeOf203
 v196 := Tryz.zeroValue203
 t198 := Tryz.underlying205
 a198 := Tryz.isAgg205
 z198 := Tryz.sizeOf205
 v198 := Tryz.zeroValue205
 t201 := Tryz.underlying208
 a201 := Tryz.isAgg208
 z201 := Tryz.sizeOf208
 v201 := Tryz.zeroValue208
 t226 := Tryz.underlying211
 a226 := Tryz.isAgg211
 z226 := Tryz.sizeOf211
 v226 := Tryz.zeroValue211
 t227 := Tryz.underlying212
 a227 := Tryz.isAgg212
 z227 := Tryz.sizeOf212
 v227 := Tryz.zeroValue212
 g7 := by kernel_rfl
 g8 := by kernel_rfl }
def Tryz.laysInst_ren : Go.Shelf.Ren := ⟨fun | 8 => 89 | 6 => 121 | n => n, fun | 22 => 32 | 23 => 43 | 25 => 148 | 4 => 4 | 3 => 3 | 0 => 0 | n => n, fun | n => n⟩
theorem Tryz.laysInst : Go.Proofs.SlLaysH0.n8 Tryz.prog Tryz.laysInst_ren := {
 mixed := by kernel_rfl
 f6 := ⟨Tryz.f121.name, by decide, Tryz.func121.trans (congrArg some (by kernel_rfl))⟩
 f8 := ⟨Tryz.f89.name, by decide, Tryz.func89.trans (congrArg some (by kernel_rfl))⟩
 t0 := Tryz.underlying0
 a0 := Tryz.isAgg0
 z0 := Tryz.sizeOf0
 v0 := Tryz.zeroValue0
 t3 := Tryz.underlying3
 a3 := Tryz.isAgg3
 z3 := Tryz.sizeOf3
 v3 := Tryz.zeroValue3
 t4 := Tryz.underlying4
 a4 := Tryz.isAgg4
 z4 := Tryz.sizeOf4
 v4 := Tryz.zeroValue4
 t22 := Tryz.underlying32
 a22 := Tryz.isAgg32
 z22 := Tryz.sizeOf32
 v22 := Tryz.zeroValue32
 t25 := Tryz.underlying148
 a25 := Tryz.isAgg148
 z25 := Tryz.sizeOf148
 v25 := Tryz.zeroValue148 }
def Tryz.laysPhi_ren : Go.Shelf.Ren := ⟨fun | 8 => 86 | 6 => 116 | n => n, fun | 22 => 31 | 23 => 95 | 25 => 146 | 4 => 4 | 3 => 3 | 0 => 0 | n => n, fun | n => n⟩
theorem Tryz.laysPhi : Go.Proofs.SlLaysH0.n8 Tryz.prog Tryz.laysPhi_ren := {
 mixed := by kernel_rfl
 f6 := ⟨Tryz.f116.name, by decide, Tryz.func116.trans (congrArg some (by kernel_rfl))⟩
 f8 := ⟨Tryz.f86.name, by decide, Tryz.func86.trans (congrArg some (by kernel_rfl))⟩
 t0 := Tryz.underlying0
 a0 := Tryz.isAgg0
 z0 := Tryz.sizeOf0
 v0 := Tryz.zeroValue0
 t3 := Tryz.underlying3
 a3 := Tryz.isAgg3
 z3 := Tryz.sizeOf3
 v3 := Tryz.zeroValue3
 t4 := Tryz.underlying4
 a4 := Tryz.isAgg4
 z4 := Tryz.sizeOf4
 v4 := Tryz.zeroValue4
 t22 := Tryz.underlying31
 a22 := Tryz.isAgg31
 z22 := Tryz.sizeOf31
 v22 := Tryz.zeroValue31
 t25 := Tryz.underlying146
 a25 := Tryz.isAgg146
 z25 := Tryz.sizeOf146
 v25 := Tryz.zeroValue146 }
def Tryz.laysInt_ren : Go.Shelf.Ren := ⟨fun | 8 => 93 | 6 => 124 | n => n, fun | 22 => 23 | 23 => 3 | 25 => 151 | 4 => 4 | 3 => 3 | 0 => 0 | n => n, fun | n => n⟩
theorem Tryz.laysInt : Go.Proofs.SlLaysH.n8 Tryz.prog Tryz.laysInt_ren := {
 mixed := by kernel_rfl
 f6 := ⟨Tryz.f124.name, by decide, Tryz.func124.trans (congrArg some (by kernel_rfl))⟩
 f8 := ⟨Tryz.f93.name, by decide, Tryz.func93.trans (congrArg some (by kernel_rfl))⟩
 t0 := Tryz.underlying0
 a0 := Tryz.isAgg0
 z0 := Tryz.sizeOf0
 v0 := Tryz.zeroValue0
 t3 := Tryz.underlying3
 a3 := Tryz.isAgg3
 z3 := Tryz.sizeOf3
 v3 := Tryz.zeroValue3
 t4 := Tryz.underlying4
 a4 := Tryz.isAgg4
 z4 := Tryz.sizeOf4
 v4 := Tryz.zeroValue4
 t22 := Tryz.underlying23
 a22 := Tryz.isAgg23
 z22 := Tryz.sizeOf23
 v22 := Tryz.zeroValue23
 a23 := Tryz.isAgg3
 z23 := Tryz.sizeOf3
 t25 := Tryz.underlying151
 a25 := Tryz.isAgg151
 z25 := Tryz.sizeOf151
 v25 := Tryz.zeroValue151 }
end Go.Proofs
