/- slices.Clone at []api.Fate and at []int: the shelf's contract (any element type), laid by hand. -/
import Derived.Shelf.SlicesE.Clone
import Derived.Ground.SlgnProg
import Derived.Test.YtbcfcdcomboljaaProg
namespace Go.Proofs
def Try.laysCloneF_ren : Go.Shelf.Ren := ⟨fun | 41 => 59 | n => n, fun | 22 => 59 | 23 => 72 | 4 => 4 | n => n, fun | n => n⟩
theorem Try.laysCloneF : Go.Proofs.SlLaysE0.n41 Try.prog Try.laysCloneF_ren := {
  mixed := by kernel_rfl
  f41 := ⟨Try.f59.name, by decide, Try.func59.trans (congrArg some (by kernel_rfl))⟩
  t4 := Try.underlying4
  a4 := Try.isAgg4
  z4 := Try.sizeOf4
  v4 := Try.zeroValue4
  t22 := Try.underlying59
  a22 := Try.isAgg59
  z22 := Try.sizeOf59
  v22 := Try.zeroValue59 }
def Try.laysCloneI_ren : Go.Shelf.Ren := ⟨fun | 41 => 83 | n => n, fun | 22 => 62 | 23 => 3 | 4 => 4 | n => n, fun | n => n⟩
theorem Try.laysCloneI : Go.Proofs.SlLaysE0.n41 Try.prog Try.laysCloneI_ren := {
  mixed := by kernel_rfl
  f41 := ⟨Try.f83.name, by decide, Try.func83.trans (congrArg some (by kernel_rfl))⟩
  t4 := Try.underlying4
  a4 := Try.isAgg4
  z4 := Try.sizeOf4
  v4 := Try.zeroValue4
  t22 := Try.underlying62
  a22 := Try.isAgg62
  z22 := Try.sizeOf62
  v22 := Try.zeroValue62 }
end Go.Proofs
