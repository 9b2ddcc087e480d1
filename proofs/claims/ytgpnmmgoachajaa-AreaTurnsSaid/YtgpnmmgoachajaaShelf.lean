/- The contracts of the library's slices functions, laid at this dump: each the shelf's structure filled with the dump's own facts. -/
import Derived.Shelf.SlicesE.Index
import Derived.Shelf.SlicesE.IndexFunc
import Derived.Shelf.SlicesE.Delete
import Derived.Shelf.SlicesE.Clone
import Derived.Shelf.SlicesE.Equal
import Derived.Ground.SlgnProg
import Derived.Ground.SlgfProg
import Derived.Test.YtgpnmmgoachajaaProg
namespace Go.Proofs.Ytgpnmmgoachajaa
open Go.Proofs
open Go.Shelf
def lays64_ren : Go.Shelf.Ren := ⟨fun | 29 => 64 | n => n, fun | 22 => 33 | 23 => 3 | 3 => 3 | 0 => 0 | 4 => 4 | n => n, fun | n => n⟩
theorem lays64 : SlLaysE.n29 Try.prog lays64_ren := {
  mixed := by kernel_rfl
  f29 := ⟨Try.f64.name, by decide, Try.func64.trans (congrArg some (by kernel_rfl))⟩
  t0 := Try.underlying0
  a0 := Try.isAgg0
  z0 := Try.sizeOf0
  v0 := Try.zeroValue0
  t3 := Try.underlying3
  a3 := Try.isAgg3
  z3 := Try.sizeOf3
  v3 := Try.zeroValue3
  t4 := Try.underlying4
  a4 := Try.isAgg4
  z4 := Try.sizeOf4
  v4 := Try.zeroValue4
  t22 := Try.underlying33
  a22 := Try.isAgg33
  z22 := Try.sizeOf33
  v22 := Try.zeroValue33
  a23 := Try.isAgg3
  z23 := Try.sizeOf3 }
def lays50_ren : Go.Shelf.Ren := ⟨fun | 31 => 50 | 29 => 64 | n => n, fun | 22 => 33 | 23 => 3 | 4 => 4 | 3 => 3 | 0 => 0 | n => n, fun | n => n⟩
theorem lays50 : SlLaysE.n31 Try.prog lays50_ren := {
  mixed := by kernel_rfl
  f29 := ⟨Try.f64.name, by decide, Try.func64.trans (congrArg some (by kernel_rfl))⟩
  f31 := ⟨Try.f50.name, by decide, Try.func50.trans (congrArg some (by kernel_rfl))⟩
  t0 := Try.underlying0
  a0 := Try.isAgg0
  z0 := Try.sizeOf0
  v0 := Try.zeroValue0
  t3 := Try.underlying3
  a3 := Try.isAgg3
  z3 := Try.sizeOf3
  v3 := Try.zeroValue3
  t4 := Try.underlying4
  a4 := Try.isAgg4
  z4 := Try.sizeOf4
  v4 := Try.zeroValue4
  t22 := Try.underlying33
  a22 := Try.isAgg33
  z22 := Try.sizeOf33
  v22 := Try.zeroValue33
  a23 := Try.isAgg3
  z23 := Try.sizeOf3 }
def lays84_ren : Go.Shelf.Ren := ⟨fun | 41 => 84 | n => n, fun | 22 => 22 | 23 => 5 | 4 => 4 | n => n, fun | n => n⟩
theorem lays84 : SlLaysE0.n41 Try.prog lays84_ren := {
  mixed := by kernel_rfl
  f41 := ⟨Try.f84.name, by decide, Try.func84.trans (congrArg some (by kernel_rfl))⟩
  t4 := Try.underlying4
  a4 := Try.isAgg4
  z4 := Try.sizeOf4
  v4 := Try.zeroValue4
  t22 := Try.underlying22
  a22 := Try.isAgg22
  z22 := Try.sizeOf22
  v22 := Try.zeroValue22 }
def lays72_ren : Go.Shelf.Ren := ⟨fun | 33 => 72 | n => n, fun | 22 => 22 | 23 => 5 | 4 => 4 | 3 => 3 | 0 => 0 | n => n, fun | n => n⟩
theorem lays72 : SlLaysE.n33 Try.prog lays72_ren := {
  mixed := by kernel_rfl
  f33 := ⟨Try.f72.name, by decide, Try.func72.trans (congrArg some (by kernel_rfl))⟩
  t0 := Try.underlying0
  a0 := Try.isAgg0
  z0 := Try.sizeOf0
  v0 := Try.zeroValue0
  t3 := Try.underlying3
  a3 := Try.isAgg3
  z3 := Try.sizeOf3
  v3 := Try.zeroValue3
  t4 := Try.underlying4
  a4 := Try.isAgg4
  z4 := Try.sizeOf4
  v4 := Try.zeroValue4
  t22 := Try.underlying22
  a22 := Try.isAgg22
  z22 := Try.sizeOf22
  v22 := Try.zeroValue22
  a23 := Try.isAgg5
  z23 := Try.sizeOf5 }
end Go.Proofs.Ytgpnmmgoachajaa
