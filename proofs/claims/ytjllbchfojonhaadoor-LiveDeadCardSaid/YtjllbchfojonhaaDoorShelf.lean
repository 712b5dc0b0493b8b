/-
 DERIVED: THE SHELF's CONTRACTS AT THIS DUMP, IN PLAIN WORDS (tools/lay-plain.mjs out of 'YtjllbchfojonhaaDoorShelf.lean', which tools/lay-shelf.mjs wrote): THE SAME DECLARATIONS UNDER THE SAME NAMES: 'import', 'namespace', 'open', 'def', 'theorem' AND NOTHING ELSE: no command of the shelf's: FOR A HAND-IN. Each laying: the table of numbers ('.._ren') and one theorem, a field a fact of the dump's own or the kernel's comparison; each contract: ONE APPLICATION.
-/
import Derived.Shelf.SlGeneric
import Derived.Ground.NamesProg
import Derived.Ground.SlgfProg
import Derived.Shelf.SlicesQ.IndexFunc
import Derived.Shelf.SlicesE.IndexFunc
import Derived.Shelf.Unicode.PredsAny
import Derived.Test.YtjllbchfojonhaaDoorProg
namespace Go.Proofs
open Go.Shelf
def Tryd.lays200_ren : Go.Shelf.Ren := ⟨fun | 200 => 87 | 261 => 106 | 311 => 117 | 312 => 118 | n => n, fun | 21 => 21 | 4 => 4 | 51 => 154 | 5 => 5 | 119 => 155 | 0 => 0 | 141 => 157 | 196 => 169 | 193 => 166 | 3 => 3 | 198 => 171 | 49 => 56 | 194 => 167 | 201 => 174 | 226 => 181 | 46 => 147 | 227 => 182 | n => n, fun | 7 => 1 | 8 => 2 | n => n⟩
theorem Tryd.lays200 : Go.Proofs.Lays.n200 Tryd.prog Tryd.lays200_ren := {
 mixed := by kernel_rfl
 f200 := Tryd.func87.trans (congrArg some (by kernel_rfl))
 f261 := Tryd.func106.trans (congrArg some (by kernel_rfl))
 f311 := Tryd.func117.trans (congrArg some (by kernel_rfl))
 f312 := Tryd.func118.trans (congrArg some (by kernel_rfl))
 t0 := Tryd.underlying0
 a0 := Tryd.isAgg0
 z0 := Tryd.sizeOf0
 v0 := Tryd.zeroValue0
 t3 := Tryd.underlying3
 a3 := Tryd.isAgg3
 z3 := Tryd.sizeOf3
 v3 := Tryd.zeroValue3
 t4 := Tryd.underlying4
 a4 := Tryd.isAgg4
 z4 := Tryd.sizeOf4
 v4 := Tryd.zeroValue4
 t5 := Tryd.underlying5
 a5 := Tryd.isAgg5
 z5 := Tryd.sizeOf5
 v5 := Tryd.zeroValue5
 t21 := Tryd.underlying21
 a21 := Tryd.isAgg21
 z21 := Tryd.sizeOf21
 v21 := Tryd.zeroValue21
 t46 := Tryd.underlying147
 a46 := Tryd.isAgg147
 z46 := Tryd.sizeOf147
 v46 := Tryd.zeroValue147
 t49 := Tryd.underlying56
 a49 := Tryd.isAgg56
 z49 := Tryd.sizeOf56
 v49 := Tryd.zeroValue56
 t51 := Tryd.underlying154
 a51 := Tryd.isAgg154
 z51 := Tryd.sizeOf154
 v51 := Tryd.zeroValue154
 t119 := Tryd.underlying155
 a119 := Tryd.isAgg155
 z119 := Tryd.sizeOf155
 t141 := Tryd.underlying157
 a141 := Tryd.isAgg157
 z141 := Tryd.sizeOf157
 v141 := Tryd.zeroValue157
 t193 := Tryd.underlying166
 a193 := Tryd.isAgg166
 z193 := Tryd.sizeOf166
 v193 := Tryd.zeroValue166
 t194 := Tryd.underlying167
 a194 := Tryd.isAgg167
 z194 := Tryd.sizeOf167
 v194 := Tryd.zeroValue167
 t196 := Tryd.underlying169
 a196 := Tryd.isAgg169
 z196 := Tryd.sizeOf169
 v196 := Tryd.zeroValue169
 t198 := Tryd.underlying171
 a198 := Tryd.isAgg171
 z198 := Tryd.sizeOf171
 v198 := Tryd.zeroValue171
 t201 := Tryd.underlying174
 a201 := Tryd.isAgg174
 z201 := Tryd.sizeOf174
 v201 := Tryd.zeroValue174
 t226 := Tryd.underlying181
 a226 := Tryd.isAgg181
 z226 := Tryd.sizeOf181
 v226 := Tryd.zeroValue181
 t227 := Tryd.underlying182
 a227 := Tryd.isAgg182
 z227 := Tryd.sizeOf182
 v227 := Tryd.zeroValue182
 g7 := by kernel_rfl
 g8 := by kernel_rfl }
def Tryd.laysInst_ren : Go.Shelf.Ren := ⟨fun | 8 => 42 | 6 => 72 | n => n, fun | 22 => 33 | 23 => 42 | 25 => 90 | 4 => 4 | 3 => 3 | 0 => 0 | n => n, fun | n => n⟩
theorem Tryd.laysInst : Go.Proofs.SlLaysH0.n8 Tryd.prog Tryd.laysInst_ren := {
 mixed := by kernel_rfl
 f6 := ⟨Tryd.f72.name, by decide, Tryd.func72.trans (congrArg some (by kernel_rfl))⟩
 f8 := ⟨Tryd.f42.name, by decide, Tryd.func42.trans (congrArg some (by kernel_rfl))⟩
 t0 := Tryd.underlying0
 a0 := Tryd.isAgg0
 z0 := Tryd.sizeOf0
 v0 := Tryd.zeroValue0
 t3 := Tryd.underlying3
 a3 := Tryd.isAgg3
 z3 := Tryd.sizeOf3
 v3 := Tryd.zeroValue3
 t4 := Tryd.underlying4
 a4 := Tryd.isAgg4
 z4 := Tryd.sizeOf4
 v4 := Tryd.zeroValue4
 t22 := Tryd.underlying33
 a22 := Tryd.isAgg33
 z22 := Tryd.sizeOf33
 v22 := Tryd.zeroValue33
 t25 := Tryd.underlying90
 a25 := Tryd.isAgg90
 z25 := Tryd.sizeOf90
 v25 := Tryd.zeroValue90 }
def Tryd.laysPhi_ren : Go.Shelf.Ren := ⟨fun | 8 => 60 | 6 => 90 | n => n, fun | 22 => 32 | 23 => 79 | 25 => 112 | 4 => 4 | 3 => 3 | 0 => 0 | n => n, fun | n => n⟩
theorem Tryd.laysPhi : Go.Proofs.SlLaysH0.n8 Tryd.prog Tryd.laysPhi_ren := {
 mixed := by kernel_rfl
 f6 := ⟨Tryd.f90.name, by decide, Tryd.func90.trans (congrArg some (by kernel_rfl))⟩
 f8 := ⟨Tryd.f60.name, by decide, Tryd.func60.trans (congrArg some (by kernel_rfl))⟩
 t0 := Tryd.underlying0
 a0 := Tryd.isAgg0
 z0 := Tryd.sizeOf0
 v0 := Tryd.zeroValue0
 t3 := Tryd.underlying3
 a3 := Tryd.isAgg3
 z3 := Tryd.sizeOf3
 v3 := Tryd.zeroValue3
 t4 := Tryd.underlying4
 a4 := Tryd.isAgg4
 z4 := Tryd.sizeOf4
 v4 := Tryd.zeroValue4
 t22 := Tryd.underlying32
 a22 := Tryd.isAgg32
 z22 := Tryd.sizeOf32
 v22 := Tryd.zeroValue32
 t25 := Tryd.underlying112
 a25 := Tryd.isAgg112
 z25 := Tryd.sizeOf112
 v25 := Tryd.zeroValue112 }
def Tryd.laysInt_ren : Go.Shelf.Ren := ⟨fun | 8 => 66 | 6 => 97 | n => n, fun | 22 => 23 | 23 => 3 | 25 => 115 | 4 => 4 | 3 => 3 | 0 => 0 | n => n, fun | n => n⟩
theorem Tryd.laysInt : Go.Proofs.SlLaysH.n8 Tryd.prog Tryd.laysInt_ren := {
 mixed := by kernel_rfl
 f6 := ⟨Tryd.f97.name, by decide, Tryd.func97.trans (congrArg some (by kernel_rfl))⟩
 f8 := ⟨Tryd.f66.name, by decide, Tryd.func66.trans (congrArg some (by kernel_rfl))⟩
 t0 := Tryd.underlying0
 a0 := Tryd.isAgg0
 z0 := Tryd.sizeOf0
 v0 := Tryd.zeroValue0
 t3 := Tryd.underlying3
 a3 := Tryd.isAgg3
 z3 := Tryd.sizeOf3
 v3 := Tryd.zeroValue3
 t4 := Tryd.underlying4
 a4 := Tryd.isAgg4
 z4 := Tryd.sizeOf4
 v4 := Tryd.zeroValue4
 t22 := Tryd.underlying23
 a22 := Tryd.isAgg23
 z22 := Tryd.sizeOf23
 v22 := Tryd.zeroValue23
 a23 := Tryd.isAgg3
 z23 := Tryd.sizeOf3
 t25 := Tryd.underlying115
 a25 := Tryd.isAgg115
 z25 := Tryd.sizeOf115
 v25 := Tryd.zeroValue115 }
end Go.Proofs
