/-
  No cell of these rows narrows 'for every input' (looked for: loops, veiled, ifaces, maps, wideKeys, modest, calm, conditions, laid).
  DERIVED. THE GIVEN ROWS OF THIS SEAT. 9 by the template 'for every input the law returns true; each argument reads behind the call as it read before'; 0 by the template 'total and deterministic' (their statements: YtbcfcdcomboljaaTotals.lean).
  GIVEN WITH THE SEED: the statements are not yours to turn. If you find one false, say at which input.
  Laid BY PROGRAM, IN A SANDBOX (cutbox-rows.mjs): the forced cells as the released guide's own fill.sh prints them over the translation 69dedd4a88d4e1ba… (all of the seat's roots in one cut). By AI agents, Wed Nov 11 2026. No macro, syntax, notation, axiom, sorry.
-/
import Derived.Test.YtbcfcdcomboljaaChecked
import GoSem.Claim
import GoSem.ClaimJoined
import GoSem.ClaimMapViews
import Derived.JoinedTies
import Derived.KernelRfl
namespace Go.Proofs.Ytbcfcdcomboljaa
/- THE CELL 'sum', in the pinned program and in every row, IS THE sha256 OF THE DUMP (.gsa) THAT YtbcfcdcomboljaaProg.lean LOADS. Nothing in Lean hashes anything: it is a label: what it is worth is what the hold of that sum in a sandbox is worth. -/
noncomputable def Try.pinned : Pinned := { name := "ytbcfcdcomboljaa", sum := "69dedd4a88d4e1bafb0ec7a4fbce0236aed7d0715838c17299b413550b396b97", checked := Try.checked }
namespace Rows
def none {H : Type} : Left H := { results := [], args := [] }

/-- 'specielaw40.SessionServes': WHATEVER THE INPUT: true; the input reads as it did. -/
def sessionServesSpec : ChangeSpec := { name := "sessionServes", fn := fun _ => fun
  | [d1, d2, d3] => { results := [.lit (.bool true)], args := [d1, d2, d3] }
  | _ => none }
def sessionServesRow : OpenClaim := { program := "ytbcfcdcomboljaa", sum := "69dedd4a88d4e1bafb0ec7a4fbce0236aed7d0715838c17299b413550b396b97", func := "specie/specielaw40.SessionServes", spec := "sessionServes", inPlace := ["slices.overlaps[specie/api.Message]"], unfollowed := true, recurses := true, apart := false }
def SessionServesSaid : Prop := sessionServesRow.holds Try.pinned (OpenSpec.ofChange sessionServesSpec)

/-- ITS FALSE NEIGHBOUR: 'it returns false'. Refute it at one input. -/
def sessionServesWrong : ChangeSpec := { name := "sessionServes", fn := fun _ => fun
  | [d1, d2, d3] => { results := [.lit (.bool false)], args := [d1, d2, d3] }
  | _ => none }
def SessionServesWrongFalsely : Prop := sessionServesRow.holds Try.pinned (OpenSpec.ofChange sessionServesWrong)

/-- 'specielaw40.SessionKeeps': WHATEVER THE INPUT: true; the input reads as it did. -/
def sessionKeepsSpec : ChangeSpec := { name := "sessionKeeps", fn := fun _ => fun
  | [d1, d2, d3, d4] => { results := [.lit (.bool true)], args := [d1, d2, d3, d4] }
  | _ => none }
def sessionKeepsRow : OpenClaim := { program := "ytbcfcdcomboljaa", sum := "69dedd4a88d4e1bafb0ec7a4fbce0236aed7d0715838c17299b413550b396b97", func := "specie/specielaw40.SessionKeeps", spec := "sessionKeeps", inPlace := ["slices.overlaps[specie/api.Message]"], unfollowed := true, recurses := true, apart := false }
def SessionKeepsSaid : Prop := sessionKeepsRow.holds Try.pinned (OpenSpec.ofChange sessionKeepsSpec)

/-- ITS FALSE NEIGHBOUR: 'it returns false'. Refute it at one input. -/
def sessionKeepsWrong : ChangeSpec := { name := "sessionKeeps", fn := fun _ => fun
  | [d1, d2, d3, d4] => { results := [.lit (.bool false)], args := [d1, d2, d3, d4] }
  | _ => none }
def SessionKeepsWrongFalsely : Prop := sessionKeepsRow.holds Try.pinned (OpenSpec.ofChange sessionKeepsWrong)

/-- 'specielaw40.SessionAsks': WHATEVER THE INPUT: true; the input reads as it did. -/
def sessionAsksSpec : ChangeSpec := { name := "sessionAsks", fn := fun _ => fun
  | [d1, d2] => { results := [.lit (.bool true)], args := [d1, d2] }
  | _ => none }
def sessionAsksRow : OpenClaim := { program := "ytbcfcdcomboljaa", sum := "69dedd4a88d4e1bafb0ec7a4fbce0236aed7d0715838c17299b413550b396b97", func := "specie/specielaw40.SessionAsks", spec := "sessionAsks", inPlace := ["slices.overlaps[specie/api.Message]"], unfollowed := true, recurses := true, apart := false }
def SessionAsksSaid : Prop := sessionAsksRow.holds Try.pinned (OpenSpec.ofChange sessionAsksSpec)

/-- ITS FALSE NEIGHBOUR: 'it returns false'. Refute it at one input. -/
def sessionAsksWrong : ChangeSpec := { name := "sessionAsks", fn := fun _ => fun
  | [d1, d2] => { results := [.lit (.bool false)], args := [d1, d2] }
  | _ => none }
def SessionAsksWrongFalsely : Prop := sessionAsksRow.holds Try.pinned (OpenSpec.ofChange sessionAsksWrong)

/-- 'specielaw40.SessionOnce': WHATEVER THE INPUT: true; the input reads as it did. -/
def sessionOnceSpec : ChangeSpec := { name := "sessionOnce", fn := fun _ => fun
  | [d1, d2] => { results := [.lit (.bool true)], args := [d1, d2] }
  | _ => none }
def sessionOnceRow : OpenClaim := { program := "ytbcfcdcomboljaa", sum := "69dedd4a88d4e1bafb0ec7a4fbce0236aed7d0715838c17299b413550b396b97", func := "specie/specielaw40.SessionOnce", spec := "sessionOnce", inPlace := ["slices.overlaps[specie/api.Message]"], unfollowed := true, recurses := true, apart := false }
def SessionOnceSaid : Prop := sessionOnceRow.holds Try.pinned (OpenSpec.ofChange sessionOnceSpec)

/-- ITS FALSE NEIGHBOUR: 'it returns false'. Refute it at one input. -/
def sessionOnceWrong : ChangeSpec := { name := "sessionOnce", fn := fun _ => fun
  | [d1, d2] => { results := [.lit (.bool false)], args := [d1, d2] }
  | _ => none }
def SessionOnceWrongFalsely : Prop := sessionOnceRow.holds Try.pinned (OpenSpec.ofChange sessionOnceWrong)

/-- 'specielaw39.LineScripts': WHATEVER THE INPUT: true; the input reads as it did. -/
def lineScriptsSpec : ChangeSpec := { name := "lineScripts", fn := fun _ => fun
  | [d1, d2] => { results := [.lit (.bool true)], args := [d1, d2] }
  | _ => none }
def lineScriptsRow : OpenClaim := { program := "ytbcfcdcomboljaa", sum := "69dedd4a88d4e1bafb0ec7a4fbce0236aed7d0715838c17299b413550b396b97", func := "specie/specielaw39.LineScripts", spec := "lineScripts", inPlace := ["slices.overlaps[specie/api.Message]", "slices.overlaps[int]"], unfollowed := true, recurses := true, apart := false }
def LineScriptsSaid : Prop := lineScriptsRow.holds Try.pinned (OpenSpec.ofChange lineScriptsSpec)

/-- ITS FALSE NEIGHBOUR: 'it returns false'. Refute it at one input. -/
def lineScriptsWrong : ChangeSpec := { name := "lineScripts", fn := fun _ => fun
  | [d1, d2] => { results := [.lit (.bool false)], args := [d1, d2] }
  | _ => none }
def LineScriptsWrongFalsely : Prop := lineScriptsRow.holds Try.pinned (OpenSpec.ofChange lineScriptsWrong)

/-- 'specielaw39.LineReliable': WHATEVER THE INPUT: true; the input reads as it did. -/
def lineReliableSpec : ChangeSpec := { name := "lineReliable", fn := fun _ => fun
  | [d1, d2] => { results := [.lit (.bool true)], args := [d1, d2] }
  | _ => none }
def lineReliableRow : OpenClaim := { program := "ytbcfcdcomboljaa", sum := "69dedd4a88d4e1bafb0ec7a4fbce0236aed7d0715838c17299b413550b396b97", func := "specie/specielaw39.LineReliable", spec := "lineReliable", inPlace := ["slices.overlaps[specie/api.Message]", "slices.overlaps[int]"], unfollowed := true, recurses := true, apart := false }
def LineReliableSaid : Prop := lineReliableRow.holds Try.pinned (OpenSpec.ofChange lineReliableSpec)

/-- ITS FALSE NEIGHBOUR: 'it returns false'. Refute it at one input. -/
def lineReliableWrong : ChangeSpec := { name := "lineReliable", fn := fun _ => fun
  | [d1, d2] => { results := [.lit (.bool false)], args := [d1, d2] }
  | _ => none }
def LineReliableWrongFalsely : Prop := lineReliableRow.holds Try.pinned (OpenSpec.ofChange lineReliableWrong)

/-- 'specielaw39.LineFates': WHATEVER THE INPUT: true; the input reads as it did. -/
def lineFatesSpec : ChangeSpec := { name := "lineFates", fn := fun _ => fun
  | [d] => { results := [.lit (.bool true)], args := [d] }
  | _ => none }
def lineFatesRow : OpenClaim := { program := "ytbcfcdcomboljaa", sum := "69dedd4a88d4e1bafb0ec7a4fbce0236aed7d0715838c17299b413550b396b97", func := "specie/specielaw39.LineFates", spec := "lineFates", inPlace := ["slices.overlaps[specie/api.Message]", "slices.overlaps[int]"], unfollowed := true, recurses := true, apart := false }
def LineFatesSaid : Prop := lineFatesRow.holds Try.pinned (OpenSpec.ofChange lineFatesSpec)

/-- ITS FALSE NEIGHBOUR: 'it returns false'. Refute it at one input. -/
def lineFatesWrong : ChangeSpec := { name := "lineFates", fn := fun _ => fun
  | [d] => { results := [.lit (.bool false)], args := [d] }
  | _ => none }
def LineFatesWrongFalsely : Prop := lineFatesRow.holds Try.pinned (OpenSpec.ofChange lineFatesWrong)

/-- 'specielaw39.LineForms': WHATEVER THE INPUT: true; the input reads as it did. -/
def lineFormsSpec : ChangeSpec := { name := "lineForms", fn := fun _ => fun
  | [d1, d2, d3, d4] => { results := [.lit (.bool true)], args := [d1, d2, d3, d4] }
  | _ => none }
def lineFormsRow : OpenClaim := { program := "ytbcfcdcomboljaa", sum := "69dedd4a88d4e1bafb0ec7a4fbce0236aed7d0715838c17299b413550b396b97", func := "specie/specielaw39.LineForms", spec := "lineForms", inPlace := ["slices.overlaps[specie/api.Message]", "slices.overlaps[int]"], unfollowed := true, recurses := true, apart := false }
def LineFormsSaid : Prop := lineFormsRow.holds Try.pinned (OpenSpec.ofChange lineFormsSpec)

/-- ITS FALSE NEIGHBOUR: 'it returns false'. Refute it at one input. -/
def lineFormsWrong : ChangeSpec := { name := "lineForms", fn := fun _ => fun
  | [d1, d2, d3, d4] => { results := [.lit (.bool false)], args := [d1, d2, d3, d4] }
  | _ => none }
def LineFormsWrongFalsely : Prop := lineFormsRow.holds Try.pinned (OpenSpec.ofChange lineFormsWrong)

/-- 'specielaw39.LineSends': WHATEVER THE INPUT: true; the input reads as it did. -/
def lineSendsSpec : ChangeSpec := { name := "lineSends", fn := fun _ => fun
  | [d1, d2, d3] => { results := [.lit (.bool true)], args := [d1, d2, d3] }
  | _ => none }
def lineSendsRow : OpenClaim := { program := "ytbcfcdcomboljaa", sum := "69dedd4a88d4e1bafb0ec7a4fbce0236aed7d0715838c17299b413550b396b97", func := "specie/specielaw39.LineSends", spec := "lineSends", inPlace := ["slices.overlaps[specie/api.Message]", "slices.overlaps[int]"], unfollowed := true, recurses := true, apart := false }
def LineSendsSaid : Prop := lineSendsRow.holds Try.pinned (OpenSpec.ofChange lineSendsSpec)

/-- ITS FALSE NEIGHBOUR: 'it returns false'. Refute it at one input. -/
def lineSendsWrong : ChangeSpec := { name := "lineSends", fn := fun _ => fun
  | [d1, d2, d3] => { results := [.lit (.bool false)], args := [d1, d2, d3] }
  | _ => none }
def LineSendsWrongFalsely : Prop := lineSendsRow.holds Try.pinned (OpenSpec.ofChange lineSendsWrong)

/- THE SECOND FORM. 'bulk': how many values and letters a reading holds, each counted each time it is reached (what is shared counts as often as it is met; a slice's spare places count too). A statement '..UptoSaid' is the law's where the arguments, and the package variables that the reading takes, are together of bulk at most 1048576: NARROWER than '..Said'. Prove '..Said' where nothing that the law and all that it calls make is longer than what came in: it says more and counts as full. Else prove '..UptoSaid'. A law counts once. -/
mutual
def uptoBulk {H : Type} : DataW H → Nat
  | .lit (.string bytes) => bytes.length + 1
  | .lit _ => 1
  | .nil => 1
  | .ptr d => uptoBulk d + 1
  | .slice elems spare => uptoBulkAll elems + uptoBulkAll spare + 1
  | .agg parts => uptoBulkAll parts + 1
  | .iface _ d => uptoBulk d + 1
  | .map entries => uptoBulkEntries entries + 1
  | .held _ => 1
def uptoBulkAll {H : Type} : List (DataW H) → Nat
  | [] => 0
  | d :: r => uptoBulk d + uptoBulkAll r
def uptoBulkEntries {H : Type} : List (Lit × DataW H) → Nat
  | [] => 0
  | x :: r => uptoBulkEntry x + uptoBulkEntries r
def uptoBulkEntry {H : Type} : Lit × DataW H → Nat
  | (.string bytes, d) => bytes.length + uptoBulk d + 1
  | (_, d) => uptoBulk d + 1
 end
def uptoSmall : (H : Type) → List (DataW H) → Bool := fun _ ds => decide (uptoBulkAll ds ≤ 1048576)
def OpenSpec.upto (s : _root_.Go.ChangeSpec) : _root_.Go.OpenSpec := { _root_.Go.OpenSpec.ofChange s with cond := some uptoSmall }

/-- 'specielaw40.SessionServes', WHERE WHAT IT READS IS OF BULK AT MOST 1048576: true; the input reads as it did. -/
def sessionServesUptoRow : OpenClaim := { program := "ytbcfcdcomboljaa", sum := "69dedd4a88d4e1bafb0ec7a4fbce0236aed7d0715838c17299b413550b396b97", func := "specie/specielaw40.SessionServes", spec := "sessionServes", inPlace := ["slices.overlaps[specie/api.Message]"], unfollowed := true, recurses := true, apart := false, narrowed := true }
def SessionServesUptoSaid : Prop := sessionServesUptoRow.holds Try.pinned (OpenSpec.upto sessionServesSpec)

/-- 'specielaw40.SessionKeeps', WHERE WHAT IT READS IS OF BULK AT MOST 1048576: true; the input reads as it did. -/
def sessionKeepsUptoRow : OpenClaim := { program := "ytbcfcdcomboljaa", sum := "69dedd4a88d4e1bafb0ec7a4fbce0236aed7d0715838c17299b413550b396b97", func := "specie/specielaw40.SessionKeeps", spec := "sessionKeeps", inPlace := ["slices.overlaps[specie/api.Message]"], unfollowed := true, recurses := true, apart := false, narrowed := true }
def SessionKeepsUptoSaid : Prop := sessionKeepsUptoRow.holds Try.pinned (OpenSpec.upto sessionKeepsSpec)

/-- 'specielaw40.SessionAsks', WHERE WHAT IT READS IS OF BULK AT MOST 1048576: true; the input reads as it did. -/
def sessionAsksUptoRow : OpenClaim := { program := "ytbcfcdcomboljaa", sum := "69dedd4a88d4e1bafb0ec7a4fbce0236aed7d0715838c17299b413550b396b97", func := "specie/specielaw40.SessionAsks", spec := "sessionAsks", inPlace := ["slices.overlaps[specie/api.Message]"], unfollowed := true, recurses := true, apart := false, narrowed := true }
def SessionAsksUptoSaid : Prop := sessionAsksUptoRow.holds Try.pinned (OpenSpec.upto sessionAsksSpec)

/-- 'specielaw40.SessionOnce', WHERE WHAT IT READS IS OF BULK AT MOST 1048576: true; the input reads as it did. -/
def sessionOnceUptoRow : OpenClaim := { program := "ytbcfcdcomboljaa", sum := "69dedd4a88d4e1bafb0ec7a4fbce0236aed7d0715838c17299b413550b396b97", func := "specie/specielaw40.SessionOnce", spec := "sessionOnce", inPlace := ["slices.overlaps[specie/api.Message]"], unfollowed := true, recurses := true, apart := false, narrowed := true }
def SessionOnceUptoSaid : Prop := sessionOnceUptoRow.holds Try.pinned (OpenSpec.upto sessionOnceSpec)

/-- 'specielaw39.LineScripts', WHERE WHAT IT READS IS OF BULK AT MOST 1048576: true; the input reads as it did. -/
def lineScriptsUptoRow : OpenClaim := { program := "ytbcfcdcomboljaa", sum := "69dedd4a88d4e1bafb0ec7a4fbce0236aed7d0715838c17299b413550b396b97", func := "specie/specielaw39.LineScripts", spec := "lineScripts", inPlace := ["slices.overlaps[specie/api.Message]", "slices.overlaps[int]"], unfollowed := true, recurses := true, apart := false, narrowed := true }
def LineScriptsUptoSaid : Prop := lineScriptsUptoRow.holds Try.pinned (OpenSpec.upto lineScriptsSpec)

/-- 'specielaw39.LineReliable', WHERE WHAT IT READS IS OF BULK AT MOST 1048576: true; the input reads as it did. -/
def lineReliableUptoRow : OpenClaim := { program := "ytbcfcdcomboljaa", sum := "69dedd4a88d4e1bafb0ec7a4fbce0236aed7d0715838c17299b413550b396b97", func := "specie/specielaw39.LineReliable", spec := "lineReliable", inPlace := ["slices.overlaps[specie/api.Message]", "slices.overlaps[int]"], unfollowed := true, recurses := true, apart := false, narrowed := true }
def LineReliableUptoSaid : Prop := lineReliableUptoRow.holds Try.pinned (OpenSpec.upto lineReliableSpec)

/-- 'specielaw39.LineFates', WHERE WHAT IT READS IS OF BULK AT MOST 1048576: true; the input reads as it did. -/
def lineFatesUptoRow : OpenClaim := { program := "ytbcfcdcomboljaa", sum := "69dedd4a88d4e1bafb0ec7a4fbce0236aed7d0715838c17299b413550b396b97", func := "specie/specielaw39.LineFates", spec := "lineFates", inPlace := ["slices.overlaps[specie/api.Message]", "slices.overlaps[int]"], unfollowed := true, recurses := true, apart := false, narrowed := true }
def LineFatesUptoSaid : Prop := lineFatesUptoRow.holds Try.pinned (OpenSpec.upto lineFatesSpec)

/-- 'specielaw39.LineForms', WHERE WHAT IT READS IS OF BULK AT MOST 1048576: true; the input reads as it did. -/
def lineFormsUptoRow : OpenClaim := { program := "ytbcfcdcomboljaa", sum := "69dedd4a88d4e1bafb0ec7a4fbce0236aed7d0715838c17299b413550b396b97", func := "specie/specielaw39.LineForms", spec := "lineForms", inPlace := ["slices.overlaps[specie/api.Message]", "slices.overlaps[int]"], unfollowed := true, recurses := true, apart := false, narrowed := true }
def LineFormsUptoSaid : Prop := lineFormsUptoRow.holds Try.pinned (OpenSpec.upto lineFormsSpec)

/-- 'specielaw39.LineSends', WHERE WHAT IT READS IS OF BULK AT MOST 1048576: true; the input reads as it did. -/
def lineSendsUptoRow : OpenClaim := { program := "ytbcfcdcomboljaa", sum := "69dedd4a88d4e1bafb0ec7a4fbce0236aed7d0715838c17299b413550b396b97", func := "specie/specielaw39.LineSends", spec := "lineSends", inPlace := ["slices.overlaps[specie/api.Message]", "slices.overlaps[int]"], unfollowed := true, recurses := true, apart := false, narrowed := true }
def LineSendsUptoSaid : Prop := lineSendsUptoRow.holds Try.pinned (OpenSpec.upto lineSendsSpec)

end Rows
end Go.Proofs.Ytbcfcdcomboljaa
