/-
 DERIVED: THE SHELF's CONTRACTS AT THIS DUMP, IN PLAIN WORDS (tools/lay-plain.mjs out of 'YtjllbchfojonhaaDoorShelfLv.lean', which tools/lay-shelf.mjs wrote): THE SAME DECLARATIONS UNDER THE SAME NAMES: 'import', 'namespace', 'open', 'def', 'theorem' AND NOTHING ELSE: no command of the shelf's: FOR A HAND-IN. Each laying: the table of numbers ('.._ren') and one theorem, a field a fact of the dump's own or the kernel's comparison; each contract: ONE APPLICATION.
-/
import Derived.Shelf.Lays7
import Derived.Shelf.Spec.TrailingZeros
import Derived.Ground.NamesProg
import Derived.Shelf.Slices.Turned
import Derived.Test.YtjllbchfojonhaaDoorProg
namespace Go.Proofs
open Go.Shelf
def Tryd.lays7TZ_ren : Go.Shelf.Ren := ⟨fun | 29 => 81 | n => n, fun | 22 => 125 | 3 => 3 | 4 => 4 | 25 => 147 | 54 => 146 | 0 => 0 | 5 => 5 | n => n, fun | 1 => 0 | n => n⟩
theorem Tryd.lays7TZ : Go.Proofs.Lays7.n29 Tryd.prog Tryd.lays7TZ_ren := {
 mixed := by kernel_rfl
 f29 := Tryd.func81.trans (congrArg some (by kernel_rfl))
 t0 := Tryd.underlying0
 a0 := Tryd.isAgg0
 z0 := Tryd.sizeOf0
 v0 := Tryd.zeroValue0
 i0 := by kernel_rfl
 t3 := Tryd.underlying3
 a3 := Tryd.isAgg3
 z3 := Tryd.sizeOf3
 v3 := Tryd.zeroValue3
 i3 := by kernel_rfl
 t4 := Tryd.underlying4
 a4 := Tryd.isAgg4
 z4 := Tryd.sizeOf4
 v4 := Tryd.zeroValue4
 i4 := by kernel_rfl
 t5 := Tryd.underlying5
 a5 := Tryd.isAgg5
 z5 := Tryd.sizeOf5
 v5 := Tryd.zeroValue5
 i5 := by kernel_rfl
 t22 := Tryd.underlying125
 a22 := Tryd.isAgg125
 z22 := Tryd.sizeOf125
 v22 := Tryd.zeroValue125
 i22 := by kernel_rfl
 t25 := Tryd.underlying147
 a25 := Tryd.isAgg147
 z25 := Tryd.sizeOf147
 v25 := Tryd.zeroValue147
 i25 := by kernel_rfl
 t54 := Tryd.underlying146
 a54 := Tryd.isAgg146
 z54 := Tryd.sizeOf146
 g1 := by kernel_rfl }
def Tryd.laysCont_ren : Go.Shelf.Ren := ⟨fun | 107 => 100 | 108 => 111 | n => n, fun | 28 => 23 | 3 => 3 | 4 => 4 | 0 => 0 | n => n, fun | n => n⟩
theorem Tryd.laysCont : Go.Proofs.Lays.n107 Tryd.prog Tryd.laysCont_ren := {
 mixed := by kernel_rfl
 f107 := Tryd.func100.trans (congrArg some (by kernel_rfl))
 f108 := Tryd.func111.trans (congrArg some (by kernel_rfl))
 t0 := Tryd.underlying0
 a0 := Tryd.isAgg0
 z0 := Tryd.sizeOf0
 v0 := Tryd.zeroValue0
 t3 := Tryd.underlying3
 a3 := Tryd.isAgg3
 z3 := Tryd.sizeOf3
 v3 := Tryd.zeroValue3
 t4 := Tryd.underlying4
 a4 := Tryd.isAgg4
 z4 := Tryd.sizeOf4
 v4 := Tryd.zeroValue4
 t28 := Tryd.underlying23
 a28 := Tryd.isAgg23
 z28 := Tryd.sizeOf23
 v28 := Tryd.zeroValue23 }
end Go.Proofs
