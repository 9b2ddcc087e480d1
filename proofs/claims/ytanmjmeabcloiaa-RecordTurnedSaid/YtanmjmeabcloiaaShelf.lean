/- The contracts of the library's slices functions, laid at this dump: each the shelf's structure filled with the dump's own facts. -/
import Derived.Shelf.SlicesE.Index
import Derived.Shelf.SlicesE.IndexFunc
import Derived.Shelf.SlicesE.Delete
import Derived.Shelf.SlicesE.Clone
import Derived.Shelf.SlicesE.Equal
import Derived.Ground.SlgnProg
import Derived.Ground.SlgfProg
import Derived.Test.YtanmjmeabcloiaaProg
namespace Go.Proofs.Ytanmjmeabcloiaa
open Go.Proofs
open Go.Shelf
def lays54_ren : Go.Shelf.Ren := ⟨fun | 41 => 54 | n => n, fun | 22 => 22 | 23 => 5 | 4 => 4 | n => n, fun | n => n⟩
theorem lays54 : SlLaysE0.n41 Try.prog lays54_ren := {
  mixed := by kernel_rfl
  f41 := ⟨Try.f54.name, by decide, Try.func54.trans (congrArg some (by kernel_rfl))⟩
  t4 := Try.underlying4
  a4 := Try.isAgg4
  z4 := Try.sizeOf4
  v4 := Try.zeroValue4
  t22 := Try.underlying22
  a22 := Try.isAgg22
  z22 := Try.sizeOf22
  v22 := Try.zeroValue22 }
def lays44_ren : Go.Shelf.Ren := ⟨fun | 33 => 44 | n => n, fun | 22 => 22 | 23 => 5 | 4 => 4 | 3 => 3 | 0 => 0 | n => n, fun | n => n⟩
theorem lays44 : SlLaysE.n33 Try.prog lays44_ren := {
  mixed := by kernel_rfl
  f33 := ⟨Try.f44.name, by decide, Try.func44.trans (congrArg some (by kernel_rfl))⟩
  t0 := Try.underlying0
  a0 := Try.isAgg0
  z0 := Try.sizeOf0
  v0 := Try.zeroValue0
  t3 := Try.underlying3
  a3 := Try.isAgg3
  z3 := Try.sizeOf3
  v3 := Try.zeroValue3
  t4 := Try.underlying4
  a4 := Try.isAgg4
  z4 := Try.sizeOf4
  v4 := Try.zeroValue4
  t22 := Try.underlying22
  a22 := Try.isAgg22
  z22 := Try.sizeOf22
  v22 := Try.zeroValue22
  a23 := Try.isAgg5
  z23 := Try.sizeOf5 }
end Go.Proofs.Ytanmjmeabcloiaa
