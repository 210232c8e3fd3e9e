/- Merged: PtRc, PtRd. -/
import Derived.Test.YteipbcpnnojclaaDoorPuC
/- The strong test below 2^61, plain: runs of families, part 3. -/
namespace Go.Proofs.YteipbcpnnojclaaDoor
set_option linter.unusedVariables false
namespace Pt
set_option maxHeartbeats 0
/-! ### runs -/
theorem f9 : Fam 9 := fam_of [11, 13, 14, 15, 16, 17, 18, 19, 20, 21, 23, 25, 28, 29, 30, 32, 34, 35, 37, 38, 40, 41, 44, 45, 47, 49, 50, 52, 53, 55, 56, 57, 61, 64, 65, 66, 70, 73, 76, 77, 79, 80, 83, 86, 89, 92, 97, 100, 104, 109, 112, 116, 122, 130, 136, 140, 145, 149, 155, 169, 184] (by repeat (first | decide +kernel | refine ⟨?_, ?_⟩ | (unfold Cuts; decide +kernel)))
theorem f10 : Fam 10 := fam_of [13, 17, 18, 19, 20, 23, 27, 29, 31, 33, 37, 41, 43, 47, 49, 51, 57, 61, 67, 73, 79, 87, 93, 101, 109, 119, 129, 141, 157, 173] (by repeat (first | decide +kernel | refine ⟨?_, ?_⟩ | (unfold Cuts; decide +kernel)))
theorem f11 : Fam 11 := fam_of [13, 14, 15, 16, 17, 18, 19, 20, 21, 23, 24, 25, 26, 27, 28, 29, 30, 31, 32, 34, 35, 36, 37, 39, 40, 41, 42, 45, 46, 47, 48, 49, 51, 52, 53, 54, 56, 57, 59, 60, 61, 63, 64, 67, 68, 69, 71, 72, 75, 76, 78, 80, 81, 83, 84, 85, 87, 89, 91, 93, 95, 96, 98, 101, 103, 104, 107, 111, 114, 116, 120, 123, 126, 130, 133, 138, 141, 148, 152, 161, 168, 179] (by repeat (first | decide +kernel | refine ⟨?_, ?_⟩ | (unfold Cuts; decide +kernel)))
theorem f12 : Fam 12 := fam_of [14, 17, 18, 19, 20, 23, 24, 25, 26, 29, 30, 35, 36, 41, 43, 44, 47, 48, 49, 50, 53, 54, 59, 65, 67, 71, 77, 79, 83, 85, 89, 95, 97, 103, 113, 119, 127, 139, 155, 576] (by repeat (first | decide +kernel | refine ⟨?_, ?_⟩ | (unfold Cuts; decide +kernel)))
theorem f13 : Fam 13 := fam_of [15, 17, 19, 20, 21, 22, 23, 24, 25, 26, 28, 29, 30, 31, 32, 33, 34, 35, 37, 40, 41, 42, 43, 44, 45, 48, 49, 50, 53, 54, 55, 56, 58, 60, 61, 63, 67, 69, 70, 71, 73, 74, 77, 80, 82, 84, 85, 88, 89, 92, 95, 98, 101, 103, 108, 110, 112, 114, 119, 123, 126, 132, 133, 138, 140, 145, 153, 162, 797] (by repeat (first | decide +kernel | refine ⟨?_, ?_⟩ | (unfold Cuts; decide +kernel)))
theorem f14 : Fam 14 := fam_of [17, 19, 23, 25, 27, 29, 31, 33, 39, 41, 43, 47, 53, 55, 61, 69, 73, 81, 87, 97, 109, 121, 135, 151] (by repeat (first | decide +kernel | refine ⟨?_, ?_⟩ | (unfold Cuts; decide +kernel)))
theorem f15 : Fam 15 := fam_of [17, 19, 22, 23, 26, 28, 29, 31, 34, 38, 41, 43, 44, 46, 49, 52, 53, 58, 61, 67, 68, 71, 74, 79, 88, 92, 103, 112, 122, 134, 154] (by repeat (first | decide +kernel | refine ⟨?_, ?_⟩ | (unfold Cuts; decide +kernel)))
theorem f16 : Fam 16 := fam_of [19, 21, 23, 27, 29, 33, 37, 41, 45, 49, 55, 59, 65, 71, 79, 87, 99, 113, 131, 714] (by repeat (first | decide +kernel | refine ⟨?_, ?_⟩ | (unfold Cuts; decide +kernel)))
theorem f17 : Fam 17 := fam_of [20, 21, 22, 23, 24, 25, 26, 28, 29, 30, 31, 32, 35, 36, 37, 38, 40, 41, 42, 44, 45, 46, 48, 49, 52, 53, 56, 57, 58, 59, 60, 61, 65, 66, 69, 71, 73, 76, 77, 78, 80, 83, 87, 90, 92, 96, 100, 101, 105, 108, 112, 117, 123, 129, 137, 142, 152] (by repeat (first | decide +kernel | refine ⟨?_, ?_⟩ | (unfold Cuts; decide +kernel)))
theorem f18 : Fam 18 := fam_of [25, 31, 37, 43, 53, 61, 71, 83, 95, 107, 127] (by repeat (first | decide +kernel | refine ⟨?_, ?_⟩ | (unfold Cuts; decide +kernel)))
theorem f19 : Fam 19 := fam_of [22, 23, 24, 25, 26, 27, 28, 29, 30, 31, 33, 35, 36, 37, 39, 40, 42, 43, 44, 46, 47, 48, 49, 50, 52, 53, 55, 56, 59, 60, 61, 63, 65, 67, 69, 71, 74, 77, 79, 80, 84, 85, 89, 92, 97, 102, 104, 109, 113, 120, 125, 132, 140, 150] (by repeat (first | decide +kernel | refine ⟨?_, ?_⟩ | (unfold Cuts; decide +kernel)))
theorem f20 : Fam 20 := fam_of [22, 23, 24, 27, 28, 31, 32, 37, 39, 41, 43, 47, 49, 51, 53, 57, 59, 61, 63, 67, 71, 77, 79, 83, 91, 97, 103, 113, 127, 147] (by repeat (first | decide +kernel | refine ⟨?_, ?_⟩ | (unfold Cuts; decide +kernel)))
theorem f21 : Fam 21 := fam_of [25, 26, 31, 34, 38, 40, 41, 43, 44, 46, 50, 53, 59, 64, 67, 73, 76, 83, 92, 100, 106, 118, 131] (by repeat (first | decide +kernel | refine ⟨?_, ?_⟩ | (unfold Cuts; decide +kernel)))
theorem f22 : Fam 22 := fam_of [27, 31, 39, 45, 51, 59, 67, 75, 89, 107, 131] (by repeat (first | decide +kernel | refine ⟨?_, ?_⟩ | (unfold Cuts; decide +kernel)))
theorem f23 : Fam 23 := fam_of [25, 28, 29, 30, 31, 33, 34, 35, 36, 39, 41, 42, 43, 44, 45, 48, 49, 51, 52, 54, 58, 60, 61, 63, 65, 67, 70, 72, 75, 78, 80, 83, 84, 88, 90, 93, 98, 102, 107, 112, 119, 126, 136] (by repeat (first | decide +kernel | refine ⟨?_, ?_⟩ | (unfold Cuts; decide +kernel)))
end Pt
end Go.Proofs.YteipbcpnnojclaaDoor

/- The strong test below 2^61, plain: runs of families, part 4. -/
namespace Go.Proofs.YteipbcpnnojclaaDoor
set_option linter.unusedVariables false
namespace Pt
set_option maxHeartbeats 0
/-! ### runs -/
theorem f24 : Fam 24 := fam_of [29, 30, 35, 36, 41, 43, 47, 53, 59, 61, 65, 73, 79, 89, 101, 115, 137] (by repeat (first | decide +kernel | refine ⟨?_, ?_⟩ | (unfold Cuts; decide +kernel)))
theorem f25 : Fam 25 := fam_of [28, 29, 32, 34, 36, 37, 39, 42, 44, 48, 49, 52, 54, 56, 58, 61, 63, 67, 69, 73, 77, 81, 84, 88, 92, 97, 102, 109, 116, 126, 153] (by repeat (first | decide +kernel | refine ⟨?_, ?_⟩ | (unfold Cuts; decide +kernel)))
theorem f26 : Fam 26 := fam_of [31, 41, 47, 55, 63, 75, 85, 101, 131] (by repeat (first | decide +kernel | refine ⟨?_, ?_⟩ | (unfold Cuts; decide +kernel)))
theorem f27 : Fam 27 := fam_of [29, 35, 40, 41, 46, 49, 53, 56, 59, 67, 70, 76, 80, 88, 97, 107, 119] (by repeat (first | decide +kernel | refine ⟨?_, ?_⟩ | (unfold Cuts; decide +kernel)))
theorem f28 : Fam 28 := fam_of [31, 33, 37, 39, 41, 43, 45, 47, 51, 53, 55, 57, 61, 67, 71, 75, 83, 89, 97, 109, 123] (by repeat (first | decide +kernel | refine ⟨?_, ?_⟩ | (unfold Cuts; decide +kernel)))
theorem f29 : Fam 29 := fam_of [32, 35, 36, 38, 40, 41, 42, 43, 44, 45, 48, 50, 53, 56, 57, 59, 60, 63, 66, 69, 71, 74, 79, 84, 86, 90, 96, 100, 107, 113, 120, 130] (by repeat (first | decide +kernel | refine ⟨?_, ?_⟩ | (unfold Cuts; decide +kernel)))
theorem f30 : Fam 30 := fam_of [37, 41, 43, 47, 49, 53, 61, 71, 77, 83, 97, 107, 121] (by repeat (first | decide +kernel | refine ⟨?_, ?_⟩ | (unfold Cuts; decide +kernel)))
theorem f31 : Fam 31 := fam_of [35, 36, 38, 41, 43, 44, 45, 48, 51, 53, 56, 58, 60, 63, 66, 68, 72, 76, 79, 83, 85, 90, 95, 101, 108, 115, 123] (by repeat (first | decide +kernel | refine ⟨?_, ?_⟩ | (unfold Cuts; decide +kernel)))
theorem f32 : Fam 32 := fam_of [37, 43, 49, 57, 67, 79, 95, 123] (by repeat (first | decide +kernel | refine ⟨?_, ?_⟩ | (unfold Cuts; decide +kernel)))
theorem f33 : Fam 33 := fam_of [40, 43, 50, 53, 59, 64, 70, 74, 85, 95, 107] (by repeat (first | decide +kernel | refine ⟨?_, ?_⟩ | (unfold Cuts; decide +kernel)))
theorem f34 : Fam 34 := fam_of [43, 53, 63, 75, 93, 123] (by repeat (first | decide +kernel | refine ⟨?_, ?_⟩ | (unfold Cuts; decide +kernel)))
theorem f35 : Fam 35 := fam_of [38, 43, 46, 48, 52, 54, 59, 66, 69, 73, 78, 83, 92, 102, 113] (by repeat (first | decide +kernel | refine ⟨?_, ?_⟩ | (unfold Cuts; decide +kernel)))
theorem f36 : Fam 36 := fam_of [43, 49, 55, 61, 71, 79, 95, 115] (by repeat (first | decide +kernel | refine ⟨?_, ?_⟩ | (unfold Cuts; decide +kernel)))
theorem f37 : Fam 37 := fam_of [41, 44, 47, 49, 51, 55, 58, 60, 61, 65, 67, 70, 75, 79, 84, 89, 95, 102, 110, 121] (by repeat (first | decide +kernel | refine ⟨?_, ?_⟩ | (unfold Cuts; decide +kernel)))
theorem f38 : Fam 38 := fam_of [47, 61, 73, 89, 174] (by repeat (first | decide +kernel | refine ⟨?_, ?_⟩ | (unfold Cuts; decide +kernel)))
theorem f39 : Fam 39 := fam_of [44, 49, 55, 59, 67, 71, 80, 92, 109] (by repeat (first | decide +kernel | refine ⟨?_, ?_⟩ | (unfold Cuts; decide +kernel)))
theorem f40 : Fam 40 := fam_of [43, 47, 51, 57, 63, 69, 77, 87, 99, 117] (by repeat (first | decide +kernel | refine ⟨?_, ?_⟩ | (unfold Cuts; decide +kernel)))
theorem f41 : Fam 41 := fam_of [45, 49, 53, 55, 58, 60, 61, 66, 70, 73, 78, 83, 85, 91, 98, 107, 241] (by repeat (first | decide +kernel | refine ⟨?_, ?_⟩ | (unfold Cuts; decide +kernel)))
theorem f42 : Fam 42 := fam_of [47, 53, 55, 59, 65, 71, 83, 95, 107] (by repeat (first | decide +kernel | refine ⟨?_, ?_⟩ | (unfold Cuts; decide +kernel)))
theorem f43 : Fam 43 := fam_of [48, 51, 55, 59, 62, 67, 71, 73, 78, 83, 87, 94, 103, 113] (by repeat (first | decide +kernel | refine ⟨?_, ?_⟩ | (unfold Cuts; decide +kernel)))
theorem f44 : Fam 44 := fam_of [49, 53, 63, 71, 81, 93] (by repeat (first | decide +kernel | refine ⟨?_, ?_⟩ | (unfold Cuts; decide +kernel)))
theorem f45 : Fam 45 := fam_of [53, 61, 73, 86, 103] (by repeat (first | decide +kernel | refine ⟨?_, ?_⟩ | (unfold Cuts; decide +kernel)))
theorem f46 : Fam 46 := fam_of [57, 75, 95] (by repeat (first | decide +kernel | refine ⟨?_, ?_⟩ | (unfold Cuts; decide +kernel)))
theorem f47 : Fam 47 := fam_of [52, 56, 60, 63, 68, 72, 77, 81, 89, 96, 106] (by repeat (first | decide +kernel | refine ⟨?_, ?_⟩ | (unfold Cuts; decide +kernel)))
theorem f48 : Fam 48 := fam_of [59, 67, 79, 97] (by repeat (first | decide +kernel | refine ⟨?_, ?_⟩ | (unfold Cuts; decide +kernel)))
theorem f49 : Fam 49 := fam_of [54, 60, 62, 68, 73, 79, 85, 92, 102] (by repeat (first | decide +kernel | refine ⟨?_, ?_⟩ | (unfold Cuts; decide +kernel)))
theorem f50 : Fam 50 := fam_of [63, 77, 93] (by repeat (first | decide +kernel | refine ⟨?_, ?_⟩ | (unfold Cuts; decide +kernel)))
theorem f51 : Fam 51 := fam_of [59, 70, 76, 89, 107] (by repeat (first | decide +kernel | refine ⟨?_, ?_⟩ | (unfold Cuts; decide +kernel)))
theorem f52 : Fam 52 := fam_of [59, 69, 79, 95] (by repeat (first | decide +kernel | refine ⟨?_, ?_⟩ | (unfold Cuts; decide +kernel)))
theorem f53 : Fam 53 := fam_of [60, 63, 68, 72, 78, 84, 90, 98] (by repeat (first | decide +kernel | refine ⟨?_, ?_⟩ | (unfold Cuts; decide +kernel)))
theorem f54 : Fam 54 := fam_of [73, 97] (by repeat (first | decide +kernel | refine ⟨?_, ?_⟩ | (unfold Cuts; decide +kernel)))
theorem f55 : Fam 55 := fam_of [62, 68, 74, 83, 92, 123] (by repeat (first | decide +kernel | refine ⟨?_, ?_⟩ | (unfold Cuts; decide +kernel)))
theorem f56 : Fam 56 := fam_of [61, 69, 79, 93] (by repeat (first | decide +kernel | refine ⟨?_, ?_⟩ | (unfold Cuts; decide +kernel)))
theorem f57 : Fam 57 := fam_of [68, 77, 89] (by repeat (first | decide +kernel | refine ⟨?_, ?_⟩ | (unfold Cuts; decide +kernel)))
theorem f58 : Fam 58 := fam_of [77] (by repeat (first | decide +kernel | refine ⟨?_, ?_⟩ | (unfold Cuts; decide +kernel)))
theorem f59 : Fam 59 := fam_of [65, 70, 76, 83, 89, 99] (by repeat (first | decide +kernel | refine ⟨?_, ?_⟩ | (unfold Cuts; decide +kernel)))
theorem f60 : Fam 60 := fam_of [67, 73, 79, 89, 103] (by repeat (first | decide +kernel | refine ⟨?_, ?_⟩ | (unfold Cuts; decide +kernel)))
theorem f61 : Fam 61 := fam_of [68, 73, 80, 86, 96] (by repeat (first | decide +kernel | refine ⟨?_, ?_⟩ | (unfold Cuts; decide +kernel)))
theorem f62 : Fam 62 := fam_of [81] (by repeat (first | decide +kernel | refine ⟨?_, ?_⟩ | (unfold Cuts; decide +kernel)))
theorem f63 : Fam 63 := fam_of [80, 100] (by repeat (first | decide +kernel | refine ⟨?_, ?_⟩ | (unfold Cuts; decide +kernel)))
theorem f64 : Fam 64 := fam_of [89] (by repeat (first | decide +kernel | refine ⟨?_, ?_⟩ | (unfold Cuts; decide +kernel)))
theorem f65 : Fam 65 := fam_of [74, 84, 94] (by repeat (first | decide +kernel | refine ⟨?_, ?_⟩ | (unfold Cuts; decide +kernel)))
theorem f66 : Fam 66 := fam_of [89] (by repeat (first | decide +kernel | refine ⟨?_, ?_⟩ | (unfold Cuts; decide +kernel)))
theorem f67 : Fam 67 := fam_of [75, 82, 91] (by repeat (first | decide +kernel | refine ⟨?_, ?_⟩ | (unfold Cuts; decide +kernel)))
theorem f68 : Fam 68 := fam_of [83] (by repeat (first | decide +kernel | refine ⟨?_, ?_⟩ | (unfold Cuts; decide +kernel)))
theorem f69 : Fam 69 := fam_of [80] (by repeat (first | decide +kernel | refine ⟨?_, ?_⟩ | (unfold Cuts; decide +kernel)))
theorem f70 : Fam 70 := fam_of [81, 93] (by repeat (first | decide +kernel | refine ⟨?_, ?_⟩ | (unfold Cuts; decide +kernel)))
theorem f71 : Fam 71 := fam_of [81, 90] (by repeat (first | decide +kernel | refine ⟨?_, ?_⟩ | (unfold Cuts; decide +kernel)))
theorem f72 : Fam 72 := fam_of [91] (by repeat (first | decide +kernel | refine ⟨?_, ?_⟩ | (unfold Cuts; decide +kernel)))
theorem f73 : Fam 73 := fam_of [84, 93] (by repeat (first | decide +kernel | refine ⟨?_, ?_⟩ | (unfold Cuts; decide +kernel)))
theorem f74 : Fam 74 := fam_of [] (by repeat (first | decide +kernel | refine ⟨?_, ?_⟩ | (unfold Cuts; decide +kernel)))
theorem f75 : Fam 75 := fam_of [] (by repeat (first | decide +kernel | refine ⟨?_, ?_⟩ | (unfold Cuts; decide +kernel)))
theorem f76 : Fam 76 := fam_of [] (by repeat (first | decide +kernel | refine ⟨?_, ?_⟩ | (unfold Cuts; decide +kernel)))
theorem f77 : Fam 77 := fam_of [90] (by repeat (first | decide +kernel | refine ⟨?_, ?_⟩ | (unfold Cuts; decide +kernel)))
theorem f78 : Fam 78 := fam_of [] (by repeat (first | decide +kernel | refine ⟨?_, ?_⟩ | (unfold Cuts; decide +kernel)))
theorem f79 : Fam 79 := fam_of [90] (by repeat (first | decide +kernel | refine ⟨?_, ?_⟩ | (unfold Cuts; decide +kernel)))
end Pt
end Go.Proofs.YteipbcpnnojclaaDoor
