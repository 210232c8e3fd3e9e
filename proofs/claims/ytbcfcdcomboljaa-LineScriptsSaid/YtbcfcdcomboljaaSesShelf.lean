/- slices.Clone at []byte and at []api.Message: the shelf's contract (any element type), laid by hand: the shelf's own tool matches instances by type names, and misses these two. -/
import Derived.Shelf.SlicesE.Clone
import Derived.Ground.SlgnProg
import Derived.Test.YtbcfcdcomboljaaProg
namespace Go.Proofs
def Try.laysCloneB_ren : Go.Shelf.Ren := ⟨fun | 41 => 79 | n => n, fun | 22 => 22 | 23 => 5 | 4 => 4 | n => n, fun | n => n⟩
theorem Try.laysCloneB : Go.Proofs.SlLaysE0.n41 Try.prog Try.laysCloneB_ren := {
  mixed := by kernel_rfl
  f41 := ⟨Try.f79.name, by decide, Try.func79.trans (congrArg some (by kernel_rfl))⟩
  t4 := Try.underlying4
  a4 := Try.isAgg4
  z4 := Try.sizeOf4
  v4 := Try.zeroValue4
  t22 := Try.underlying22
  a22 := Try.isAgg22
  z22 := Try.sizeOf22
  v22 := Try.zeroValue22 }
def Try.laysCloneM_ren : Go.Shelf.Ren := ⟨fun | 41 => 80 | n => n, fun | 22 => 25 | 23 => 24 | 4 => 4 | n => n, fun | n => n⟩
theorem Try.laysCloneM : Go.Proofs.SlLaysE0.n41 Try.prog Try.laysCloneM_ren := {
  mixed := by kernel_rfl
  f41 := ⟨Try.f80.name, by decide, Try.func80.trans (congrArg some (by kernel_rfl))⟩
  t4 := Try.underlying4
  a4 := Try.isAgg4
  z4 := Try.sizeOf4
  v4 := Try.zeroValue4
  t22 := Try.underlying25
  a22 := Try.isAgg25
  z22 := Try.sizeOf25
  v22 := Try.zeroValue25 }
end Go.Proofs
