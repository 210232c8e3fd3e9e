/- Merged: PtYb, PtYd. -/
import Derived.Test.YteipbcpnnojclaaDoorPuF
/- The strong test below 2^61, plain: runs over pairs, part 2. -/
namespace Go.Proofs.YteipbcpnnojclaaDoor
set_option linter.unusedVariables false
namespace Pt
set_option maxHeartbeats 0
/-! ### runs -/
theorem n0_1_7 : NoA 0 1 7 := noA6_of lev7 (by decide) (by decide) (by apply all64 <;> decide +kernel)
theorem n0_2_1 : NoA 0 2 1 := noA6_of lev11 (by decide) (by decide) (by apply all64 <;> decide +kernel)
theorem n0_2_3 : NoA 0 2 3 := noA6_of lev11 (by decide) (by decide) (by apply all64 <;> decide +kernel)
theorem n0_2_5 : NoA 0 2 5 := noA6_of lev11 (by decide) (by decide) (by apply all64 <;> decide +kernel)
theorem n0_2_7 : NoA 0 2 7 := noA6_of lev11 (by decide) (by decide) (by apply all64 <;> decide +kernel)
theorem n0_3_1 : NoA 0 3 1 := noA6_of lev11 (by decide) (by decide) (by apply all64 <;> decide +kernel)
theorem n0_3_3 : NoA 0 3 3 := noA6_of lev11 (by decide) (by decide) (by apply all64 <;> decide +kernel)
theorem n0_3_5 : NoA 0 3 5 := noA6_of lev11 (by decide) (by decide) (by apply all64 <;> decide +kernel)
theorem n0_3_7 : NoA 0 3 7 := noA6_of lev11 (by decide) (by decide) (by apply all64 <;> decide +kernel)
theorem n1_1_1 : NoA 1 1 1 := noA6_of lev7 (by decide) (by decide) (by apply all64 <;> decide +kernel)
theorem n1_1_3 : NoA 1 1 3 := noA6_of lev7 (by decide) (by decide) (by apply all64 <;> decide +kernel)
theorem n1_1_5 : NoA 1 1 5 := noA6_of lev7 (by decide) (by decide) (by apply all64 <;> decide +kernel)
theorem n1_1_7 : NoA 1 1 7 := noA6_of lev7 (by decide) (by decide) (by apply all64 <;> decide +kernel)
theorem n0_4_1 : NoA 0 4 1 := noA3_of lev11 (by decide) (by decide) (by apply all8 <;> decide +kernel)
theorem n0_4_3 : NoA 0 4 3 := noA3_of lev11 (by decide) (by decide) (by apply all8 <;> decide +kernel)
theorem n0_4_5 : NoA 0 4 5 := noA3_of lev11 (by decide) (by decide) (by apply all8 <;> decide +kernel)
end Pt
end Go.Proofs.YteipbcpnnojclaaDoor

/- The strong test below 2^61, plain: runs over pairs, part 4. -/
namespace Go.Proofs.YteipbcpnnojclaaDoor
set_option linter.unusedVariables false
namespace Pt
set_option maxHeartbeats 0
/-! ### runs -/
theorem ga150 : ∀ b, 150 ≤ b → b < 150 + 4 → A4 b := A4_of lev41 (by decide) (by decide +kernel)
theorem ga154 : ∀ b, 154 ≤ b → b < 154 + 4 → A4 b := A4_of lev41 (by decide) (by decide +kernel)
theorem ga158 : ∀ b, 158 ≤ b → b < 158 + 4 → A4 b := A4_of lev41 (by decide) (by decide +kernel)
theorem ga162 : ∀ b, 162 ≤ b → b < 162 + 4 → A4 b := A4_of lev41 (by decide) (by decide +kernel)
theorem ga166 : ∀ b, 166 ≤ b → b < 166 + 4 → A4 b := A4_of lev41 (by decide) (by decide +kernel)
theorem ga170 : ∀ b, 170 ≤ b → b < 170 + 4 → A4 b := A4_of lev41 (by decide) (by decide +kernel)
theorem ga174 : ∀ b, 174 ≤ b → b < 174 + 4 → A4 b := A4_of lev41 (by decide) (by decide +kernel)
theorem ga178 : ∀ b, 178 ≤ b → b < 178 + 4 → A4 b := A4_of lev41 (by decide) (by decide +kernel)
theorem ga182 : ∀ b, 182 ≤ b → b < 182 + 4 → A4 b := A4_of lev41 (by decide) (by decide +kernel)
theorem ga186 : ∀ b, 186 ≤ b → b < 186 + 4 → A4 b := A4_of lev41 (by decide) (by decide +kernel)
theorem ga190 : ∀ b, 190 ≤ b → b < 190 + 4 → A4 b := A4_of lev41 (by decide) (by decide +kernel)
theorem ga194 : ∀ b, 194 ≤ b → b < 194 + 4 → A4 b := A4_of lev41 (by decide) (by decide +kernel)
theorem ga198 : ∀ b, 198 ≤ b → b < 198 + 4 → A4 b := A4_of lev41 (by decide) (by decide +kernel)
theorem ga202 : ∀ b, 202 ≤ b → b < 202 + 4 → A4 b := A4_of lev41 (by decide) (by decide +kernel)
theorem ga206 : ∀ b, 206 ≤ b → b < 206 + 4 → A4 b := A4_of lev41 (by decide) (by decide +kernel)
theorem ga210 : ∀ b, 210 ≤ b → b < 210 + 4 → A4 b := A4_of lev41 (by decide) (by decide +kernel)
theorem ga214 : ∀ b, 214 ≤ b → b < 214 + 4 → A4 b := A4_of lev41 (by decide) (by decide +kernel)
theorem ga218 : ∀ b, 218 ≤ b → b < 218 + 4 → A4 b := A4_of lev41 (by decide) (by decide +kernel)
theorem ga222 : ∀ b, 222 ≤ b → b < 222 + 4 → A4 b := A4_of lev41 (by decide) (by decide +kernel)
theorem ga226 : ∀ b, 226 ≤ b → b < 226 + 1 → A4 b := A4_of lev41 (by decide) (by decide +kernel)
theorem gb0 : ∀ b, 0 ≤ b → b < 0 + 1 → B4 b := B4_of lev7 (by decide) (by decide +kernel)
theorem b1_1 : NoB 0 1 1 := noB3_of lev7 (by decide) (by decide) (by apply all8 <;> decide +kernel)
theorem b1_3 : NoB 0 1 3 := noB3_of lev7 (by decide) (by decide) (by apply all8 <;> decide +kernel)
theorem b1_5 : NoB 0 1 5 := noB3_of lev7 (by decide) (by decide) (by apply all8 <;> decide +kernel)
theorem b1_7 : NoB 0 1 7 := noB3_of lev7 (by decide) (by decide) (by apply all8 <;> decide +kernel)
theorem b2_1 : NoB 0 2 1 := noB3_of lev11 (by decide) (by decide) (by apply all8 <;> decide +kernel)
theorem b2_3 : NoB 0 2 3 := noB3_of lev11 (by decide) (by decide) (by apply all8 <;> decide +kernel)
theorem b2_5 : NoB 0 2 5 := noB3_of lev11 (by decide) (by decide) (by apply all8 <;> decide +kernel)
theorem b2_7 : NoB 0 2 7 := noB3_of lev11 (by decide) (by decide) (by apply all8 <;> decide +kernel)
theorem b3_1 : NoB 0 3 1 := noB3_of lev11 (by decide) (by decide) (by apply all8 <;> decide +kernel)
theorem b3_3 : NoB 0 3 3 := noB3_of lev11 (by decide) (by decide) (by apply all8 <;> decide +kernel)
theorem b3_5 : NoB 0 3 5 := noB3_of lev11 (by decide) (by decide) (by apply all8 <;> decide +kernel)
end Pt
end Go.Proofs.YteipbcpnnojclaaDoor
