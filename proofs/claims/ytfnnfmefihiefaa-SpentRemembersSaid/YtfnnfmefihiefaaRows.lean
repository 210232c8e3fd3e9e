/-
  No cell of these rows narrows 'for every input' (looked for: loops, veiled, ifaces, maps, wideKeys, modest, calm, conditions, laid).
  DERIVED. THE GIVEN ROWS OF THIS SEAT. 5 by the template 'for every input the law returns true; each argument reads behind the call as it read before'; 0 by the template 'total and deterministic' (their statements: YtfnnfmefihiefaaTotals.lean).
  GIVEN WITH THE SEED: the statements are not yours to turn. If you find one false, say at which input.
  Laid BY PROGRAM, IN A SANDBOX (cutbox-rows.mjs): the forced cells as the released guide's own fill.sh prints them over the translation 9346c766963d8bbd… (all of the seat's roots in one cut). By AI agents, Wed Nov 11 2026. No macro, syntax, notation, axiom, sorry.
-/
import Derived.Test.YtfnnfmefihiefaaChecked
import GoSem.Claim
import GoSem.ClaimJoined
import GoSem.ClaimMapViews
import Derived.JoinedTies
import Derived.KernelRfl
namespace Go.Proofs.Ytfnnfmefihiefaa
/- THE CELL 'sum', in the pinned program and in every row, IS THE sha256 OF THE DUMP (.gsa) THAT YtfnnfmefihiefaaProg.lean LOADS. Nothing in Lean hashes anything: it is a label: what it is worth is what the hold of that sum in a sandbox is worth. -/
noncomputable def Try.pinned : Pinned := { name := "ytfnnfmefihiefaa", sum := "9346c766963d8bbd33d048992bbd3c511e6e555d27100a7ad2f188d097f45d34", checked := Try.checked }
namespace Rows
def none {H : Type} : Left H := { results := [], args := [] }

/-- 'specielaw44.SpentFull': WHATEVER THE INPUT: true; the input reads as it did. -/
def spentFullSpec : ChangeSpec := { name := "spentFull", fn := fun _ => fun
  | [d1, d2] => { results := [.lit (.bool true)], args := [d1, d2] }
  | _ => none }
def spentFullRow : OpenClaim := { program := "ytfnnfmefihiefaa", sum := "9346c766963d8bbd33d048992bbd3c511e6e555d27100a7ad2f188d097f45d34", func := "specie/specielaw44.SpentFull", spec := "spentFull", inPlace := ["slices.overlaps[specie/api.Use]"], unfollowed := true, recurses := true, plainKeys := false, apart := false }
def SpentFullSaid : Prop := spentFullRow.holds Try.pinned (OpenSpec.ofChange spentFullSpec)

/-- ITS FALSE NEIGHBOUR: 'it returns false'. Refute it at one input. -/
def spentFullWrong : ChangeSpec := { name := "spentFull", fn := fun _ => fun
  | [d1, d2] => { results := [.lit (.bool false)], args := [d1, d2] }
  | _ => none }
def SpentFullWrongFalsely : Prop := spentFullRow.holds Try.pinned (OpenSpec.ofChange spentFullWrong)

/-- 'specielaw44.SpentPuts': WHATEVER THE INPUT: true; the input reads as it did. -/
def spentPutsSpec : ChangeSpec := { name := "spentPuts", fn := fun _ => fun
  | [d1, d2, d3, d4] => { results := [.lit (.bool true)], args := [d1, d2, d3, d4] }
  | _ => none }
def spentPutsRow : OpenClaim := { program := "ytfnnfmefihiefaa", sum := "9346c766963d8bbd33d048992bbd3c511e6e555d27100a7ad2f188d097f45d34", func := "specie/specielaw44.SpentPuts", spec := "spentPuts", inPlace := ["slices.overlaps[specie/api.Use]"], unfollowed := true, recurses := true, plainKeys := false, apart := false }
def SpentPutsSaid : Prop := spentPutsRow.holds Try.pinned (OpenSpec.ofChange spentPutsSpec)

/-- ITS FALSE NEIGHBOUR: 'it returns false'. Refute it at one input. -/
def spentPutsWrong : ChangeSpec := { name := "spentPuts", fn := fun _ => fun
  | [d1, d2, d3, d4] => { results := [.lit (.bool false)], args := [d1, d2, d3, d4] }
  | _ => none }
def SpentPutsWrongFalsely : Prop := spentPutsRow.holds Try.pinned (OpenSpec.ofChange spentPutsWrong)

/-- 'specielaw44.SpentRemembers': WHATEVER THE INPUT: true; the input reads as it did. -/
def spentRemembersSpec : ChangeSpec := { name := "spentRemembers", fn := fun _ => fun
  | [d] => { results := [.lit (.bool true)], args := [d] }
  | _ => none }
def spentRemembersRow : OpenClaim := { program := "ytfnnfmefihiefaa", sum := "9346c766963d8bbd33d048992bbd3c511e6e555d27100a7ad2f188d097f45d34", func := "specie/specielaw44.SpentRemembers", spec := "spentRemembers", inPlace := ["slices.overlaps[specie/api.Use]"], unfollowed := true, recurses := true, plainKeys := false, apart := false }
def SpentRemembersSaid : Prop := spentRemembersRow.holds Try.pinned (OpenSpec.ofChange spentRemembersSpec)

/-- ITS FALSE NEIGHBOUR: 'it returns false'. Refute it at one input. -/
def spentRemembersWrong : ChangeSpec := { name := "spentRemembers", fn := fun _ => fun
  | [d] => { results := [.lit (.bool false)], args := [d] }
  | _ => none }
def SpentRemembersWrongFalsely : Prop := spentRemembersRow.holds Try.pinned (OpenSpec.ofChange spentRemembersWrong)

/-- 'specielaw44.SpentOrder': WHATEVER THE INPUT: true; the input reads as it did. -/
def spentOrderSpec : ChangeSpec := { name := "spentOrder", fn := fun _ => fun
  | [d] => { results := [.lit (.bool true)], args := [d] }
  | _ => none }
def spentOrderRow : OpenClaim := { program := "ytfnnfmefihiefaa", sum := "9346c766963d8bbd33d048992bbd3c511e6e555d27100a7ad2f188d097f45d34", func := "specie/specielaw44.SpentOrder", spec := "spentOrder", inPlace := ["slices.overlaps[specie/api.Use]"], unfollowed := true, recurses := true, plainKeys := false, apart := false }
def SpentOrderSaid : Prop := spentOrderRow.holds Try.pinned (OpenSpec.ofChange spentOrderSpec)

/-- ITS FALSE NEIGHBOUR: 'it returns false'. Refute it at one input. -/
def spentOrderWrong : ChangeSpec := { name := "spentOrder", fn := fun _ => fun
  | [d] => { results := [.lit (.bool false)], args := [d] }
  | _ => none }
def SpentOrderWrongFalsely : Prop := spentOrderRow.holds Try.pinned (OpenSpec.ofChange spentOrderWrong)

/-- 'specielaw44.SpentMerges': WHATEVER THE INPUT: true; the input reads as it did. -/
def spentMergesSpec : ChangeSpec := { name := "spentMerges", fn := fun _ => fun
  | [d1, d2, d3, d4] => { results := [.lit (.bool true)], args := [d1, d2, d3, d4] }
  | _ => none }
def spentMergesRow : OpenClaim := { program := "ytfnnfmefihiefaa", sum := "9346c766963d8bbd33d048992bbd3c511e6e555d27100a7ad2f188d097f45d34", func := "specie/specielaw44.SpentMerges", spec := "spentMerges", inPlace := ["slices.overlaps[specie/api.Use]"], unfollowed := true, recurses := true, plainKeys := false, apart := false }
def SpentMergesSaid : Prop := spentMergesRow.holds Try.pinned (OpenSpec.ofChange spentMergesSpec)

/-- ITS FALSE NEIGHBOUR: 'it returns false'. Refute it at one input. -/
def spentMergesWrong : ChangeSpec := { name := "spentMerges", fn := fun _ => fun
  | [d1, d2, d3, d4] => { results := [.lit (.bool false)], args := [d1, d2, d3, d4] }
  | _ => none }
def SpentMergesWrongFalsely : Prop := spentMergesRow.holds Try.pinned (OpenSpec.ofChange spentMergesWrong)

/- THE SECOND FORM. 'bulk': how many values and letters a reading holds, each counted each time it is reached (what is shared counts as often as it is met; a slice's spare places count too). A statement '..UptoSaid' is the law's where the arguments, and the package variables that the reading takes, are together of bulk at most 1048576: NARROWER than '..Said'. Prove '..Said' where nothing that the law and all that it calls make is longer than what came in: it says more and counts as full. Else prove '..UptoSaid'. A law counts once. -/
mutual
def uptoBulk {H : Type} : DataW H → Nat
  | .lit (.string bytes) => bytes.length + 1
  | .lit _ => 1
  | .nil => 1
  | .ptr d => uptoBulk d + 1
  | .slice elems spare => uptoBulkAll elems + uptoBulkAll spare + 1
  | .agg parts => uptoBulkAll parts + 1
  | .iface _ d => uptoBulk d + 1
  | .map entries => uptoBulkEntries entries + 1
  | .held _ => 1
def uptoBulkAll {H : Type} : List (DataW H) → Nat
  | [] => 0
  | d :: r => uptoBulk d + uptoBulkAll r
def uptoBulkEntries {H : Type} : List (Lit × DataW H) → Nat
  | [] => 0
  | x :: r => uptoBulkEntry x + uptoBulkEntries r
def uptoBulkEntry {H : Type} : Lit × DataW H → Nat
  | (.string bytes, d) => bytes.length + uptoBulk d + 1
  | (_, d) => uptoBulk d + 1
 end
def uptoSmall : (H : Type) → List (DataW H) → Bool := fun _ ds => decide (uptoBulkAll ds ≤ 1048576)
def OpenSpec.upto (s : _root_.Go.ChangeSpec) : _root_.Go.OpenSpec := { _root_.Go.OpenSpec.ofChange s with cond := some uptoSmall }

/-- 'specielaw44.SpentFull', WHERE WHAT IT READS IS OF BULK AT MOST 1048576: true; the input reads as it did. -/
def spentFullUptoRow : OpenClaim := { program := "ytfnnfmefihiefaa", sum := "9346c766963d8bbd33d048992bbd3c511e6e555d27100a7ad2f188d097f45d34", func := "specie/specielaw44.SpentFull", spec := "spentFull", inPlace := ["slices.overlaps[specie/api.Use]"], unfollowed := true, recurses := true, plainKeys := false, apart := false, narrowed := true }
def SpentFullUptoSaid : Prop := spentFullUptoRow.holds Try.pinned (OpenSpec.upto spentFullSpec)

/-- 'specielaw44.SpentPuts', WHERE WHAT IT READS IS OF BULK AT MOST 1048576: true; the input reads as it did. -/
def spentPutsUptoRow : OpenClaim := { program := "ytfnnfmefihiefaa", sum := "9346c766963d8bbd33d048992bbd3c511e6e555d27100a7ad2f188d097f45d34", func := "specie/specielaw44.SpentPuts", spec := "spentPuts", inPlace := ["slices.overlaps[specie/api.Use]"], unfollowed := true, recurses := true, plainKeys := false, apart := false, narrowed := true }
def SpentPutsUptoSaid : Prop := spentPutsUptoRow.holds Try.pinned (OpenSpec.upto spentPutsSpec)

/-- 'specielaw44.SpentRemembers', WHERE WHAT IT READS IS OF BULK AT MOST 1048576: true; the input reads as it did. -/
def spentRemembersUptoRow : OpenClaim := { program := "ytfnnfmefihiefaa", sum := "9346c766963d8bbd33d048992bbd3c511e6e555d27100a7ad2f188d097f45d34", func := "specie/specielaw44.SpentRemembers", spec := "spentRemembers", inPlace := ["slices.overlaps[specie/api.Use]"], unfollowed := true, recurses := true, plainKeys := false, apart := false, narrowed := true }
def SpentRemembersUptoSaid : Prop := spentRemembersUptoRow.holds Try.pinned (OpenSpec.upto spentRemembersSpec)

/-- 'specielaw44.SpentOrder', WHERE WHAT IT READS IS OF BULK AT MOST 1048576: true; the input reads as it did. -/
def spentOrderUptoRow : OpenClaim := { program := "ytfnnfmefihiefaa", sum := "9346c766963d8bbd33d048992bbd3c511e6e555d27100a7ad2f188d097f45d34", func := "specie/specielaw44.SpentOrder", spec := "spentOrder", inPlace := ["slices.overlaps[specie/api.Use]"], unfollowed := true, recurses := true, plainKeys := false, apart := false, narrowed := true }
def SpentOrderUptoSaid : Prop := spentOrderUptoRow.holds Try.pinned (OpenSpec.upto spentOrderSpec)

/-- 'specielaw44.SpentMerges', WHERE WHAT IT READS IS OF BULK AT MOST 1048576: true; the input reads as it did. -/
def spentMergesUptoRow : OpenClaim := { program := "ytfnnfmefihiefaa", sum := "9346c766963d8bbd33d048992bbd3c511e6e555d27100a7ad2f188d097f45d34", func := "specie/specielaw44.SpentMerges", spec := "spentMerges", inPlace := ["slices.overlaps[specie/api.Use]"], unfollowed := true, recurses := true, plainKeys := false, apart := false, narrowed := true }
def SpentMergesUptoSaid : Prop := spentMergesUptoRow.holds Try.pinned (OpenSpec.upto spentMergesSpec)

end Rows
end Go.Proofs.Ytfnnfmefihiefaa
