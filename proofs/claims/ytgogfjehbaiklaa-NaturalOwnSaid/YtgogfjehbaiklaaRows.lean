/-
  No cell of these rows narrows 'for every input' (looked for: loops, veiled, ifaces, maps, wideKeys, modest, calm, conditions, laid).
  DERIVED. THE GIVEN ROWS OF THIS SEAT. 8 by the template 'for every input the law returns true; each argument reads behind the call as it read before'; 0 by the template 'total and deterministic' (their statements: YtgogfjehbaiklaaTotals.lean).
  GIVEN WITH THE SEED: the statements are not yours to turn. If you find one false, say at which input.
  Laid BY PROGRAM, IN A SANDBOX (cutbox-rows.mjs): the forced cells as the released guide's own fill.sh prints them over the translation c3fc09eaa44a5d8a… (all of the seat's roots in one cut). By AI agents, Wed Nov 11 2026. No macro, syntax, notation, axiom, sorry.
-/
import Derived.Test.YtgogfjehbaiklaaChecked
import GoSem.Claim
import GoSem.ClaimJoined
import GoSem.ClaimMapViews
import Derived.JoinedTies
import Derived.KernelRfl
namespace Go.Proofs.Ytgogfjehbaiklaa
/- THE CELL 'sum', in the pinned program and in every row, IS THE sha256 OF THE DUMP (.gsa) THAT YtgogfjehbaiklaaProg.lean LOADS. Nothing in Lean hashes anything: it is a label: what it is worth is what the hold of that sum in a sandbox is worth. -/
noncomputable def Try.pinned : Pinned := { name := "ytgogfjehbaiklaa", sum := "c3fc09eaa44a5d8adc13efb795746450c2a2023ec6882a5ce6e10a2a82087755", checked := Try.checked }
namespace Rows
def none {H : Type} : Left H := { results := [], args := [] }

/-- 'specielaw02.NaturalProducts': WHATEVER THE INPUT: true; the input reads as it did. -/
def naturalProductsSpec : ChangeSpec := { name := "naturalProducts", fn := fun _ => fun
  | [d1, d2, d3] => { results := [.lit (.bool true)], args := [d1, d2, d3] }
  | _ => none }
def naturalProductsRow : OpenClaim := { program := "ytgogfjehbaiklaa", sum := "c3fc09eaa44a5d8adc13efb795746450c2a2023ec6882a5ce6e10a2a82087755", func := "specie/specielaw02.NaturalProducts", spec := "naturalProducts", unfollowed := true, recurses := true, named := ["math/bits.overflowError"], apart := false }
def NaturalProductsSaid : Prop := naturalProductsRow.holds Try.pinned (OpenSpec.ofChange naturalProductsSpec)

/-- ITS FALSE NEIGHBOUR: 'it returns false'. Refute it at one input. -/
def naturalProductsWrong : ChangeSpec := { name := "naturalProducts", fn := fun _ => fun
  | [d1, d2, d3] => { results := [.lit (.bool false)], args := [d1, d2, d3] }
  | _ => none }
def NaturalProductsWrongFalsely : Prop := naturalProductsRow.holds Try.pinned (OpenSpec.ofChange naturalProductsWrong)

/-- 'specielaw02.NaturalRest': WHATEVER THE INPUT: true; the input reads as it did. -/
def naturalRestSpec : ChangeSpec := { name := "naturalRest", fn := fun _ => fun
  | [d1, d2] => { results := [.lit (.bool true)], args := [d1, d2] }
  | _ => none }
def naturalRestRow : OpenClaim := { program := "ytgogfjehbaiklaa", sum := "c3fc09eaa44a5d8adc13efb795746450c2a2023ec6882a5ce6e10a2a82087755", func := "specie/specielaw02.NaturalRest", spec := "naturalRest", unfollowed := true, recurses := true, named := ["math/bits.overflowError"], apart := false }
def NaturalRestSaid : Prop := naturalRestRow.holds Try.pinned (OpenSpec.ofChange naturalRestSpec)

/-- ITS FALSE NEIGHBOUR: 'it returns false'. Refute it at one input. -/
def naturalRestWrong : ChangeSpec := { name := "naturalRest", fn := fun _ => fun
  | [d1, d2] => { results := [.lit (.bool false)], args := [d1, d2] }
  | _ => none }
def NaturalRestWrongFalsely : Prop := naturalRestRow.holds Try.pinned (OpenSpec.ofChange naturalRestWrong)

/-- 'specielaw02.NaturalInts': WHATEVER THE INPUT: true; the input reads as it did. -/
def naturalIntsSpec : ChangeSpec := { name := "naturalInts", fn := fun _ => fun
  | [d1, d2, d3] => { results := [.lit (.bool true)], args := [d1, d2, d3] }
  | _ => none }
def naturalIntsRow : OpenClaim := { program := "ytgogfjehbaiklaa", sum := "c3fc09eaa44a5d8adc13efb795746450c2a2023ec6882a5ce6e10a2a82087755", func := "specie/specielaw02.NaturalInts", spec := "naturalInts", unfollowed := true, recurses := true, named := ["math/bits.overflowError"], apart := false }
def NaturalIntsSaid : Prop := naturalIntsRow.holds Try.pinned (OpenSpec.ofChange naturalIntsSpec)

/-- ITS FALSE NEIGHBOUR: 'it returns false'. Refute it at one input. -/
def naturalIntsWrong : ChangeSpec := { name := "naturalInts", fn := fun _ => fun
  | [d1, d2, d3] => { results := [.lit (.bool false)], args := [d1, d2, d3] }
  | _ => none }
def NaturalIntsWrongFalsely : Prop := naturalIntsRow.holds Try.pinned (OpenSpec.ofChange naturalIntsWrong)

/-- 'specielaw02.NaturalShifts': WHATEVER THE INPUT: true; the input reads as it did. -/
def naturalShiftsSpec : ChangeSpec := { name := "naturalShifts", fn := fun _ => fun
  | [d1, d2, d3] => { results := [.lit (.bool true)], args := [d1, d2, d3] }
  | _ => none }
def naturalShiftsRow : OpenClaim := { program := "ytgogfjehbaiklaa", sum := "c3fc09eaa44a5d8adc13efb795746450c2a2023ec6882a5ce6e10a2a82087755", func := "specie/specielaw02.NaturalShifts", spec := "naturalShifts", unfollowed := true, recurses := true, named := ["math/bits.overflowError"], apart := false }
def NaturalShiftsSaid : Prop := naturalShiftsRow.holds Try.pinned (OpenSpec.ofChange naturalShiftsSpec)

/-- ITS FALSE NEIGHBOUR: 'it returns false'. Refute it at one input. -/
def naturalShiftsWrong : ChangeSpec := { name := "naturalShifts", fn := fun _ => fun
  | [d1, d2, d3] => { results := [.lit (.bool false)], args := [d1, d2, d3] }
  | _ => none }
def NaturalShiftsWrongFalsely : Prop := naturalShiftsRow.holds Try.pinned (OpenSpec.ofChange naturalShiftsWrong)

/-- 'specielaw02.NaturalSums': WHATEVER THE INPUT: true; the input reads as it did. -/
def naturalSumsSpec : ChangeSpec := { name := "naturalSums", fn := fun _ => fun
  | [d1, d2] => { results := [.lit (.bool true)], args := [d1, d2] }
  | _ => none }
def naturalSumsRow : OpenClaim := { program := "ytgogfjehbaiklaa", sum := "c3fc09eaa44a5d8adc13efb795746450c2a2023ec6882a5ce6e10a2a82087755", func := "specie/specielaw02.NaturalSums", spec := "naturalSums", unfollowed := true, recurses := true, named := ["math/bits.overflowError"], apart := false }
def NaturalSumsSaid : Prop := naturalSumsRow.holds Try.pinned (OpenSpec.ofChange naturalSumsSpec)

/-- ITS FALSE NEIGHBOUR: 'it returns false'. Refute it at one input. -/
def naturalSumsWrong : ChangeSpec := { name := "naturalSums", fn := fun _ => fun
  | [d1, d2] => { results := [.lit (.bool false)], args := [d1, d2] }
  | _ => none }
def NaturalSumsWrongFalsely : Prop := naturalSumsRow.holds Try.pinned (OpenSpec.ofChange naturalSumsWrong)

/-- 'specielaw02.NaturalRing': WHATEVER THE INPUT: true; the input reads as it did. -/
def naturalRingSpec : ChangeSpec := { name := "naturalRing", fn := fun _ => fun
  | [d1, d2, d3] => { results := [.lit (.bool true)], args := [d1, d2, d3] }
  | _ => none }
def naturalRingRow : OpenClaim := { program := "ytgogfjehbaiklaa", sum := "c3fc09eaa44a5d8adc13efb795746450c2a2023ec6882a5ce6e10a2a82087755", func := "specie/specielaw02.NaturalRing", spec := "naturalRing", unfollowed := true, recurses := true, named := ["math/bits.overflowError"], apart := false }
def NaturalRingSaid : Prop := naturalRingRow.holds Try.pinned (OpenSpec.ofChange naturalRingSpec)

/-- ITS FALSE NEIGHBOUR: 'it returns false'. Refute it at one input. -/
def naturalRingWrong : ChangeSpec := { name := "naturalRing", fn := fun _ => fun
  | [d1, d2, d3] => { results := [.lit (.bool false)], args := [d1, d2, d3] }
  | _ => none }
def NaturalRingWrongFalsely : Prop := naturalRingRow.holds Try.pinned (OpenSpec.ofChange naturalRingWrong)

/-- 'specielaw02.NaturalWords': WHATEVER THE INPUT: true; the input reads as it did. -/
def naturalWordsSpec : ChangeSpec := { name := "naturalWords", fn := fun _ => fun
  | [d1, d2] => { results := [.lit (.bool true)], args := [d1, d2] }
  | _ => none }
def naturalWordsRow : OpenClaim := { program := "ytgogfjehbaiklaa", sum := "c3fc09eaa44a5d8adc13efb795746450c2a2023ec6882a5ce6e10a2a82087755", func := "specie/specielaw02.NaturalWords", spec := "naturalWords", named := ["math/bits.overflowError"], apart := false }
def NaturalWordsSaid : Prop := naturalWordsRow.holds Try.pinned (OpenSpec.ofChange naturalWordsSpec)

/-- ITS FALSE NEIGHBOUR: 'it returns false'. Refute it at one input. -/
def naturalWordsWrong : ChangeSpec := { name := "naturalWords", fn := fun _ => fun
  | [d1, d2] => { results := [.lit (.bool false)], args := [d1, d2] }
  | _ => none }
def NaturalWordsWrongFalsely : Prop := naturalWordsRow.holds Try.pinned (OpenSpec.ofChange naturalWordsWrong)

/-- 'specielaw02.NaturalOwn': WHATEVER THE INPUT: true; the input reads as it did. -/
def naturalOwnSpec : ChangeSpec := { name := "naturalOwn", fn := fun _ => fun
  | [d1, d2] => { results := [.lit (.bool true)], args := [d1, d2] }
  | _ => none }
def naturalOwnRow : OpenClaim := { program := "ytgogfjehbaiklaa", sum := "c3fc09eaa44a5d8adc13efb795746450c2a2023ec6882a5ce6e10a2a82087755", func := "specie/specielaw02.NaturalOwn", spec := "naturalOwn", unfollowed := true, recurses := true, named := ["math/bits.overflowError"], apart := false }
def NaturalOwnSaid : Prop := naturalOwnRow.holds Try.pinned (OpenSpec.ofChange naturalOwnSpec)

/-- ITS FALSE NEIGHBOUR: 'it returns false'. Refute it at one input. -/
def naturalOwnWrong : ChangeSpec := { name := "naturalOwn", fn := fun _ => fun
  | [d1, d2] => { results := [.lit (.bool false)], args := [d1, d2] }
  | _ => none }
def NaturalOwnWrongFalsely : Prop := naturalOwnRow.holds Try.pinned (OpenSpec.ofChange naturalOwnWrong)

/- THE SECOND FORM. 'bulk': how many values and letters a reading holds, each counted each time it is reached (what is shared counts as often as it is met; a slice's spare places count too). A statement '..UptoSaid' is the law's where the arguments, and the package variables that the reading takes, are together of bulk at most 1048576: NARROWER than '..Said'. Prove '..Said' where nothing that the law and all that it calls make is longer than what came in: it says more and counts as full. Else prove '..UptoSaid'. A law counts once. -/
mutual
def uptoBulk {H : Type} : DataW H → Nat
  | .lit (.string bytes) => bytes.length + 1
  | .lit _ => 1
  | .nil => 1
  | .ptr d => uptoBulk d + 1
  | .slice elems spare => uptoBulkAll elems + uptoBulkAll spare + 1
  | .agg parts => uptoBulkAll parts + 1
  | .iface _ d => uptoBulk d + 1
  | .map entries => uptoBulkEntries entries + 1
  | .held _ => 1
def uptoBulkAll {H : Type} : List (DataW H) → Nat
  | [] => 0
  | d :: r => uptoBulk d + uptoBulkAll r
def uptoBulkEntries {H : Type} : List (Lit × DataW H) → Nat
  | [] => 0
  | x :: r => uptoBulkEntry x + uptoBulkEntries r
def uptoBulkEntry {H : Type} : Lit × DataW H → Nat
  | (.string bytes, d) => bytes.length + uptoBulk d + 1
  | (_, d) => uptoBulk d + 1
 end
def uptoSmall : (H : Type) → List (DataW H) → Bool := fun _ ds => decide (uptoBulkAll ds ≤ 1048576)
def OpenSpec.upto (s : _root_.Go.ChangeSpec) : _root_.Go.OpenSpec := { _root_.Go.OpenSpec.ofChange s with cond := some uptoSmall }

/-- 'specielaw02.NaturalProducts', WHERE WHAT IT READS IS OF BULK AT MOST 1048576: true; the input reads as it did. -/
def naturalProductsUptoRow : OpenClaim := { program := "ytgogfjehbaiklaa", sum := "c3fc09eaa44a5d8adc13efb795746450c2a2023ec6882a5ce6e10a2a82087755", func := "specie/specielaw02.NaturalProducts", spec := "naturalProducts", unfollowed := true, recurses := true, named := ["math/bits.overflowError"], apart := false, narrowed := true }
def NaturalProductsUptoSaid : Prop := naturalProductsUptoRow.holds Try.pinned (OpenSpec.upto naturalProductsSpec)

/-- 'specielaw02.NaturalRest', WHERE WHAT IT READS IS OF BULK AT MOST 1048576: true; the input reads as it did. -/
def naturalRestUptoRow : OpenClaim := { program := "ytgogfjehbaiklaa", sum := "c3fc09eaa44a5d8adc13efb795746450c2a2023ec6882a5ce6e10a2a82087755", func := "specie/specielaw02.NaturalRest", spec := "naturalRest", unfollowed := true, recurses := true, named := ["math/bits.overflowError"], apart := false, narrowed := true }
def NaturalRestUptoSaid : Prop := naturalRestUptoRow.holds Try.pinned (OpenSpec.upto naturalRestSpec)

/-- 'specielaw02.NaturalInts', WHERE WHAT IT READS IS OF BULK AT MOST 1048576: true; the input reads as it did. -/
def naturalIntsUptoRow : OpenClaim := { program := "ytgogfjehbaiklaa", sum := "c3fc09eaa44a5d8adc13efb795746450c2a2023ec6882a5ce6e10a2a82087755", func := "specie/specielaw02.NaturalInts", spec := "naturalInts", unfollowed := true, recurses := true, named := ["math/bits.overflowError"], apart := false, narrowed := true }
def NaturalIntsUptoSaid : Prop := naturalIntsUptoRow.holds Try.pinned (OpenSpec.upto naturalIntsSpec)

/-- 'specielaw02.NaturalShifts', WHERE WHAT IT READS IS OF BULK AT MOST 1048576: true; the input reads as it did. -/
def naturalShiftsUptoRow : OpenClaim := { program := "ytgogfjehbaiklaa", sum := "c3fc09eaa44a5d8adc13efb795746450c2a2023ec6882a5ce6e10a2a82087755", func := "specie/specielaw02.NaturalShifts", spec := "naturalShifts", unfollowed := true, recurses := true, named := ["math/bits.overflowError"], apart := false, narrowed := true }
def NaturalShiftsUptoSaid : Prop := naturalShiftsUptoRow.holds Try.pinned (OpenSpec.upto naturalShiftsSpec)

/-- 'specielaw02.NaturalSums', WHERE WHAT IT READS IS OF BULK AT MOST 1048576: true; the input reads as it did. -/
def naturalSumsUptoRow : OpenClaim := { program := "ytgogfjehbaiklaa", sum := "c3fc09eaa44a5d8adc13efb795746450c2a2023ec6882a5ce6e10a2a82087755", func := "specie/specielaw02.NaturalSums", spec := "naturalSums", unfollowed := true, recurses := true, named := ["math/bits.overflowError"], apart := false, narrowed := true }
def NaturalSumsUptoSaid : Prop := naturalSumsUptoRow.holds Try.pinned (OpenSpec.upto naturalSumsSpec)

/-- 'specielaw02.NaturalRing', WHERE WHAT IT READS IS OF BULK AT MOST 1048576: true; the input reads as it did. -/
def naturalRingUptoRow : OpenClaim := { program := "ytgogfjehbaiklaa", sum := "c3fc09eaa44a5d8adc13efb795746450c2a2023ec6882a5ce6e10a2a82087755", func := "specie/specielaw02.NaturalRing", spec := "naturalRing", unfollowed := true, recurses := true, named := ["math/bits.overflowError"], apart := false, narrowed := true }
def NaturalRingUptoSaid : Prop := naturalRingUptoRow.holds Try.pinned (OpenSpec.upto naturalRingSpec)

/-- 'specielaw02.NaturalWords', WHERE WHAT IT READS IS OF BULK AT MOST 1048576: true; the input reads as it did. -/
def naturalWordsUptoRow : OpenClaim := { program := "ytgogfjehbaiklaa", sum := "c3fc09eaa44a5d8adc13efb795746450c2a2023ec6882a5ce6e10a2a82087755", func := "specie/specielaw02.NaturalWords", spec := "naturalWords", named := ["math/bits.overflowError"], apart := false, narrowed := true }
def NaturalWordsUptoSaid : Prop := naturalWordsUptoRow.holds Try.pinned (OpenSpec.upto naturalWordsSpec)

/-- 'specielaw02.NaturalOwn', WHERE WHAT IT READS IS OF BULK AT MOST 1048576: true; the input reads as it did. -/
def naturalOwnUptoRow : OpenClaim := { program := "ytgogfjehbaiklaa", sum := "c3fc09eaa44a5d8adc13efb795746450c2a2023ec6882a5ce6e10a2a82087755", func := "specie/specielaw02.NaturalOwn", spec := "naturalOwn", unfollowed := true, recurses := true, named := ["math/bits.overflowError"], apart := false, narrowed := true }
def NaturalOwnUptoSaid : Prop := naturalOwnUptoRow.holds Try.pinned (OpenSpec.upto naturalOwnSpec)

end Rows
end Go.Proofs.Ytgogfjehbaiklaa
