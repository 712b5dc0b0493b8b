/- DERIVED: THE SHELF's CONTRACTS AT THIS DUMP, IN PLAIN WORDS (tools/lay-plain.mjs out of 'YtjllbchfojonhaaGreatDoorShelfG.lean', which tools/lay-shelf.mjs wrote): THE SAME DECLARATIONS UNDER THE SAME NAMES: 'import', 'namespace', 'open', 'def', 'theorem' AND NOTHING ELSE: no command of the shelf's: FOR A HAND-IN. Each laying: the table of numbers ('.._ren') and one theorem, a field a fact of the dump's own or the kernel's comparison; each contract: ONE APPLICATION. -/
import Derived.Shelf.Slices.Turned
import Derived.Shelf.Slices.Cells
import Derived.Shelf.Bits.Mul64
import Derived.Ground.NamesProg
import Derived.Test.YtjllbchfojonhaaGreatDoorProg
namespace Go.Proofs
open Go.Shelf
def Tryz.laysCont_ren : Go.Shelf.Ren := ⟨fun | 107 => 105 | 108 => 130 | n => n, fun | 28 => 23 | 3 => 3 | 4 => 4 | 0 => 0 | n => n, fun | n => n⟩
theorem Tryz.laysCont : Go.Proofs.Lays.n107 Tryz.prog Tryz.laysCont_ren := {
 mixed := by kernel_rfl
 f107 := Tryz.func105.trans (congrArg some (by kernel_rfl))
 f108 := Tryz.func130.trans (congrArg some (by kernel_rfl))
 t0 := Tryz.underlying0
 a0 := Tryz.isAgg0
 z0 := Tryz.sizeOf0
 v0 := Tryz.zeroValue0
 t3 := Tryz.underlying3
 a3 := Tryz.isAgg3
 z3 := Tryz.sizeOf3
 v3 := Tryz.zeroValue3
 t4 := Tryz.underlying4
 a4 := Tryz.isAgg4
 z4 := Tryz.sizeOf4
 v4 := Tryz.zeroValue4
 t28 := Tryz.underlying23
 a28 := Tryz.isAgg23
 z28 := Tryz.sizeOf23
 v28 := Tryz.zeroValue23 }
def Tryz.laysRev_ren : Go.Shelf.Ren := ⟨fun | 112 => 127 | n => n, fun | 28 => 23 | 3 => 3 | 4 => 4 | 0 => 0 | n => n, fun | n => n⟩
theorem Tryz.laysRev : Go.Proofs.Lays.n112 Tryz.prog Tryz.laysRev_ren := {
 mixed := by kernel_rfl
 f112 := Tryz.func127.trans (congrArg some (by kernel_rfl))
 t0 := Tryz.underlying0
 a0 := Tryz.isAgg0
 z0 := Tryz.sizeOf0
 v0 := Tryz.zeroValue0
 t3 := Tryz.underlying3
 a3 := Tryz.isAgg3
 z3 := Tryz.sizeOf3
 v3 := Tryz.zeroValue3
 t4 := Tryz.underlying4
 a4 := Tryz.isAgg4
 z4 := Tryz.sizeOf4
 v4 := Tryz.zeroValue4
 t28 := Tryz.underlying23
 a28 := Tryz.isAgg23
 z28 := Tryz.sizeOf23
 v28 := Tryz.zeroValue23 }
def Tryz.laysMul_ren : Go.Shelf.Ren := ⟨fun | 212 => 104 | 263 => 128 | 264 => 129 | n => n, fun | 46 => 156 | 51 => 186 | 146 => 187 | 53 => 169 | 148 => 189 | n => n, fun | n => n⟩
theorem Tryz.laysMul : Go.Proofs.Lays.n212 Tryz.prog Tryz.laysMul_ren := {
 mixed := by kernel_rfl
 f212 := Tryz.func104.trans (congrArg some (by kernel_rfl))
 f263 := Tryz.func128.trans (congrArg some (by kernel_rfl))
 f264 := Tryz.func129.trans (congrArg some (by kernel_rfl))
 t46 := Tryz.underlying156
 a46 := Tryz.isAgg156
 z46 := Tryz.sizeOf156
 v46 := Tryz.zeroValue156
 t51 := Tryz.underlying186
 a51 := Tryz.isAgg186
 z51 := Tryz.sizeOf186
 v51 := Tryz.zeroValue186
 t53 := Tryz.underlying169
 a53 := Tryz.isAgg169
 z53 := Tryz.sizeOf169
 v53 := Tryz.zeroValue169
 t146 := Tryz.underlying187
 a146 := Tryz.isAgg187
 z146 := Tryz.sizeOf187
 v146 := Tryz.zeroValue187
 t148 := Tryz.underlying189
 a148 := Tryz.isAgg189
 z148 := Tryz.sizeOf189
 v148 := Tryz.zeroValue189 }
end Go.Proofs
