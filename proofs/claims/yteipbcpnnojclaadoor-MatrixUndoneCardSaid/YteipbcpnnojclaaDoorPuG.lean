/- Merged: PtYa. -/
import Derived.Test.YteipbcpnnojclaaDoorPuF
/- The strong test below 2^61, plain: runs over pairs, part 1. -/
namespace Go.Proofs.YteipbcpnnojclaaDoor
set_option linter.unusedVariables false
namespace Pt
set_option maxHeartbeats 0
/-! ### runs -/
theorem n0_0_1 : NoA 0 0 1 := noA6_of lev7 (by decide) (by decide) (by apply all64 <;> decide +kernel)
theorem n0_0_3 : NoA 0 0 3 := noA6_of lev7 (by decide) (by decide) (by apply all64 <;> decide +kernel)
theorem n0_0_5 : NoA 0 0 5 := noA6_of lev7 (by decide) (by decide) (by apply all64 <;> decide +kernel)
theorem n0_0_7 : NoA 0 0 7 := noA6_of lev7 (by decide) (by decide) (by apply all64 <;> decide +kernel)
theorem n0_1_1 : NoA 0 1 1 := noA6_of lev7 (by decide) (by decide) (by apply all64 <;> decide +kernel)
theorem n0_1_3 : NoA 0 1 3 := noA6_of lev7 (by decide) (by decide) (by apply all64 <;> decide +kernel)
theorem n0_1_5 : NoA 0 1 5 := noA6_of lev7 (by decide) (by decide) (by apply all64 <;> decide +kernel)
end Pt
end Go.Proofs.YteipbcpnnojclaaDoor
