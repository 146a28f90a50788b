/-
  No cell of these rows narrows 'for every input' (looked for: loops, veiled, ifaces, maps, wideKeys, modest, calm, conditions, laid).
  DERIVED. THE GIVEN ROWS OF THIS SEAT. 6 by the template 'for every input the law returns true; each argument reads behind the call as it read before'; 0 by the template 'total and deterministic' (their statements: YtccjnkhodgbghaaTotals.lean).
  GIVEN WITH THE SEED: the statements are not yours to turn. If you find one false, say at which input.
  Laid BY PROGRAM, IN A SANDBOX (cutbox-rows.mjs): the forced cells as the released guide's own fill.sh prints them over the translation a95c384747a20731… (all of the seat's roots in one cut). By AI agents, Wed Nov 11 2026. No macro, syntax, notation, axiom, sorry.
-/
import Derived.Test.YtccjnkhodgbghaaChecked
import GoSem.Claim
import GoSem.ClaimJoined
import GoSem.ClaimMapViews
import Derived.JoinedTies
import Derived.KernelRfl
namespace Go.Proofs.Ytccjnkhodgbghaa
/- THE CELL 'sum', in the pinned program and in every row, IS THE sha256 OF THE DUMP (.gsa) THAT YtccjnkhodgbghaaProg.lean LOADS. Nothing in Lean hashes anything: it is a label: what it is worth is what the hold of that sum in a sandbox is worth. -/
noncomputable def Try.pinned : Pinned := { name := "ytccjnkhodgbghaa", sum := "a95c384747a207314b85e70109b956e2ed1fe5872b6324b4ef88d728696166bf", checked := Try.checked }
namespace Rows
def none {H : Type} : Left H := { results := [], args := [] }

/-- 'carillonlaw22.MgmtSets': WHATEVER THE INPUT: true; the input reads as it did. -/
def mgmtSetsSpec : ChangeSpec := { name := "mgmtSets", fn := fun _ => fun
  | [d1, d2, d3, d4] => { results := [.lit (.bool true)], args := [d1, d2, d3, d4] }
  | _ => none }
def mgmtSetsRow : OpenClaim := { program := "ytccjnkhodgbghaa", sum := "a95c384747a207314b85e70109b956e2ed1fe5872b6324b4ef88d728696166bf", func := "carillon/carillonlaw22.MgmtSets", spec := "mgmtSets", apart := false }
def MgmtSetsSaid : Prop := mgmtSetsRow.holds Try.pinned (OpenSpec.ofChange mgmtSetsSpec)

/-- ITS FALSE NEIGHBOUR: 'it returns false'. Refute it at one input. -/
def mgmtSetsWrong : ChangeSpec := { name := "mgmtSets", fn := fun _ => fun
  | [d1, d2, d3, d4] => { results := [.lit (.bool false)], args := [d1, d2, d3, d4] }
  | _ => none }
def MgmtSetsWrongFalsely : Prop := mgmtSetsRow.holds Try.pinned (OpenSpec.ofChange mgmtSetsWrong)

/-- 'carillonlaw22.MgmtFaults': WHATEVER THE INPUT: true; the input reads as it did. -/
def mgmtFaultsSpec : ChangeSpec := { name := "mgmtFaults", fn := fun _ => fun
  | [d1, d2, d3, d4] => { results := [.lit (.bool true)], args := [d1, d2, d3, d4] }
  | _ => none }
def mgmtFaultsRow : OpenClaim := { program := "ytccjnkhodgbghaa", sum := "a95c384747a207314b85e70109b956e2ed1fe5872b6324b4ef88d728696166bf", func := "carillon/carillonlaw22.MgmtFaults", spec := "mgmtFaults", apart := false }
def MgmtFaultsSaid : Prop := mgmtFaultsRow.holds Try.pinned (OpenSpec.ofChange mgmtFaultsSpec)

/-- ITS FALSE NEIGHBOUR: 'it returns false'. Refute it at one input. -/
def mgmtFaultsWrong : ChangeSpec := { name := "mgmtFaults", fn := fun _ => fun
  | [d1, d2, d3, d4] => { results := [.lit (.bool false)], args := [d1, d2, d3, d4] }
  | _ => none }
def MgmtFaultsWrongFalsely : Prop := mgmtFaultsRow.holds Try.pinned (OpenSpec.ofChange mgmtFaultsWrong)

/-- 'carillonlaw22.MgmtLengths': WHATEVER THE INPUT: true; the input reads as it did. -/
def mgmtLengthsSpec : ChangeSpec := { name := "mgmtLengths", fn := fun _ => fun
  | [d1, d2, d3, d4] => { results := [.lit (.bool true)], args := [d1, d2, d3, d4] }
  | _ => none }
def mgmtLengthsRow : OpenClaim := { program := "ytccjnkhodgbghaa", sum := "a95c384747a207314b85e70109b956e2ed1fe5872b6324b4ef88d728696166bf", func := "carillon/carillonlaw22.MgmtLengths", spec := "mgmtLengths", apart := false }
def MgmtLengthsSaid : Prop := mgmtLengthsRow.holds Try.pinned (OpenSpec.ofChange mgmtLengthsSpec)

/-- ITS FALSE NEIGHBOUR: 'it returns false'. Refute it at one input. -/
def mgmtLengthsWrong : ChangeSpec := { name := "mgmtLengths", fn := fun _ => fun
  | [d1, d2, d3, d4] => { results := [.lit (.bool false)], args := [d1, d2, d3, d4] }
  | _ => none }
def MgmtLengthsWrongFalsely : Prop := mgmtLengthsRow.holds Try.pinned (OpenSpec.ofChange mgmtLengthsWrong)

/-- 'carillonlaw22.MgmtQuiet': WHATEVER THE INPUT: true; the input reads as it did. -/
def mgmtQuietSpec : ChangeSpec := { name := "mgmtQuiet", fn := fun _ => fun
  | [d1, d2, d3, d4] => { results := [.lit (.bool true)], args := [d1, d2, d3, d4] }
  | _ => none }
def mgmtQuietRow : OpenClaim := { program := "ytccjnkhodgbghaa", sum := "a95c384747a207314b85e70109b956e2ed1fe5872b6324b4ef88d728696166bf", func := "carillon/carillonlaw22.MgmtQuiet", spec := "mgmtQuiet", apart := false }
def MgmtQuietSaid : Prop := mgmtQuietRow.holds Try.pinned (OpenSpec.ofChange mgmtQuietSpec)

/-- ITS FALSE NEIGHBOUR: 'it returns false'. Refute it at one input. -/
def mgmtQuietWrong : ChangeSpec := { name := "mgmtQuiet", fn := fun _ => fun
  | [d1, d2, d3, d4] => { results := [.lit (.bool false)], args := [d1, d2, d3, d4] }
  | _ => none }
def MgmtQuietWrongFalsely : Prop := mgmtQuietRow.holds Try.pinned (OpenSpec.ofChange mgmtQuietWrong)

/-- 'carillonlaw22.MgmtDefaults': WHATEVER THE INPUT: true; the input reads as it did. -/
def mgmtDefaultsSpec : ChangeSpec := { name := "mgmtDefaults", fn := fun _ => fun
  | [d] => { results := [.lit (.bool true)], args := [d] }
  | _ => none }
def mgmtDefaultsRow : OpenClaim := { program := "ytccjnkhodgbghaa", sum := "a95c384747a207314b85e70109b956e2ed1fe5872b6324b4ef88d728696166bf", func := "carillon/carillonlaw22.MgmtDefaults", spec := "mgmtDefaults", apart := false }
def MgmtDefaultsSaid : Prop := mgmtDefaultsRow.holds Try.pinned (OpenSpec.ofChange mgmtDefaultsSpec)

/-- ITS FALSE NEIGHBOUR: 'it returns false'. Refute it at one input. -/
def mgmtDefaultsWrong : ChangeSpec := { name := "mgmtDefaults", fn := fun _ => fun
  | [d] => { results := [.lit (.bool false)], args := [d] }
  | _ => none }
def MgmtDefaultsWrongFalsely : Prop := mgmtDefaultsRow.holds Try.pinned (OpenSpec.ofChange mgmtDefaultsWrong)

/-- 'carillonlaw22.MgmtTimes': WHATEVER THE INPUT: true; the input reads as it did. -/
def mgmtTimesSpec : ChangeSpec := { name := "mgmtTimes", fn := fun _ => fun
  | [d1, d2, d3, d4] => { results := [.lit (.bool true)], args := [d1, d2, d3, d4] }
  | _ => none }
def mgmtTimesRow : OpenClaim := { program := "ytccjnkhodgbghaa", sum := "a95c384747a207314b85e70109b956e2ed1fe5872b6324b4ef88d728696166bf", func := "carillon/carillonlaw22.MgmtTimes", spec := "mgmtTimes", unfollowed := true, recurses := true, apart := false }
def MgmtTimesSaid : Prop := mgmtTimesRow.holds Try.pinned (OpenSpec.ofChange mgmtTimesSpec)

/-- ITS FALSE NEIGHBOUR: 'it returns false'. Refute it at one input. -/
def mgmtTimesWrong : ChangeSpec := { name := "mgmtTimes", fn := fun _ => fun
  | [d1, d2, d3, d4] => { results := [.lit (.bool false)], args := [d1, d2, d3, d4] }
  | _ => none }
def MgmtTimesWrongFalsely : Prop := mgmtTimesRow.holds Try.pinned (OpenSpec.ofChange mgmtTimesWrong)

/- THE SECOND FORM. 'bulk': how many values and letters a reading holds, each counted each time it is reached (what is shared counts as often as it is met; a slice's spare places count too). A statement '..UptoSaid' is the law's where the arguments, and the package variables that the reading takes, are together of bulk at most 1048576: NARROWER than '..Said'. Prove '..Said' where nothing that the law and all that it calls make is longer than what came in: it says more and counts as full. Else prove '..UptoSaid'. A law counts once. -/
mutual
def uptoBulk {H : Type} : DataW H → Nat
  | .lit (.string bytes) => bytes.length + 1
  | .lit _ => 1
  | .nil => 1
  | .ptr d => uptoBulk d + 1
  | .slice elems spare => uptoBulkAll elems + uptoBulkAll spare + 1
  | .agg parts => uptoBulkAll parts + 1
  | .iface _ d => uptoBulk d + 1
  | .map entries => uptoBulkEntries entries + 1
  | .held _ => 1
def uptoBulkAll {H : Type} : List (DataW H) → Nat
  | [] => 0
  | d :: r => uptoBulk d + uptoBulkAll r
def uptoBulkEntries {H : Type} : List (Lit × DataW H) → Nat
  | [] => 0
  | x :: r => uptoBulkEntry x + uptoBulkEntries r
def uptoBulkEntry {H : Type} : Lit × DataW H → Nat
  | (.string bytes, d) => bytes.length + uptoBulk d + 1
  | (_, d) => uptoBulk d + 1
 end
def uptoSmall : (H : Type) → List (DataW H) → Bool := fun _ ds => decide (uptoBulkAll ds ≤ 1048576)
def OpenSpec.upto (s : _root_.Go.ChangeSpec) : _root_.Go.OpenSpec := { _root_.Go.OpenSpec.ofChange s with cond := some uptoSmall }

/-- 'carillonlaw22.MgmtSets', WHERE WHAT IT READS IS OF BULK AT MOST 1048576: true; the input reads as it did. -/
def mgmtSetsUptoRow : OpenClaim := { program := "ytccjnkhodgbghaa", sum := "a95c384747a207314b85e70109b956e2ed1fe5872b6324b4ef88d728696166bf", func := "carillon/carillonlaw22.MgmtSets", spec := "mgmtSets", apart := false, narrowed := true }
def MgmtSetsUptoSaid : Prop := mgmtSetsUptoRow.holds Try.pinned (OpenSpec.upto mgmtSetsSpec)

/-- 'carillonlaw22.MgmtFaults', WHERE WHAT IT READS IS OF BULK AT MOST 1048576: true; the input reads as it did. -/
def mgmtFaultsUptoRow : OpenClaim := { program := "ytccjnkhodgbghaa", sum := "a95c384747a207314b85e70109b956e2ed1fe5872b6324b4ef88d728696166bf", func := "carillon/carillonlaw22.MgmtFaults", spec := "mgmtFaults", apart := false, narrowed := true }
def MgmtFaultsUptoSaid : Prop := mgmtFaultsUptoRow.holds Try.pinned (OpenSpec.upto mgmtFaultsSpec)

/-- 'carillonlaw22.MgmtLengths', WHERE WHAT IT READS IS OF BULK AT MOST 1048576: true; the input reads as it did. -/
def mgmtLengthsUptoRow : OpenClaim := { program := "ytccjnkhodgbghaa", sum := "a95c384747a207314b85e70109b956e2ed1fe5872b6324b4ef88d728696166bf", func := "carillon/carillonlaw22.MgmtLengths", spec := "mgmtLengths", apart := false, narrowed := true }
def MgmtLengthsUptoSaid : Prop := mgmtLengthsUptoRow.holds Try.pinned (OpenSpec.upto mgmtLengthsSpec)

/-- 'carillonlaw22.MgmtQuiet', WHERE WHAT IT READS IS OF BULK AT MOST 1048576: true; the input reads as it did. -/
def mgmtQuietUptoRow : OpenClaim := { program := "ytccjnkhodgbghaa", sum := "a95c384747a207314b85e70109b956e2ed1fe5872b6324b4ef88d728696166bf", func := "carillon/carillonlaw22.MgmtQuiet", spec := "mgmtQuiet", apart := false, narrowed := true }
def MgmtQuietUptoSaid : Prop := mgmtQuietUptoRow.holds Try.pinned (OpenSpec.upto mgmtQuietSpec)

/-- 'carillonlaw22.MgmtDefaults', WHERE WHAT IT READS IS OF BULK AT MOST 1048576: true; the input reads as it did. -/
def mgmtDefaultsUptoRow : OpenClaim := { program := "ytccjnkhodgbghaa", sum := "a95c384747a207314b85e70109b956e2ed1fe5872b6324b4ef88d728696166bf", func := "carillon/carillonlaw22.MgmtDefaults", spec := "mgmtDefaults", apart := false, narrowed := true }
def MgmtDefaultsUptoSaid : Prop := mgmtDefaultsUptoRow.holds Try.pinned (OpenSpec.upto mgmtDefaultsSpec)

/-- 'carillonlaw22.MgmtTimes', WHERE WHAT IT READS IS OF BULK AT MOST 1048576: true; the input reads as it did. -/
def mgmtTimesUptoRow : OpenClaim := { program := "ytccjnkhodgbghaa", sum := "a95c384747a207314b85e70109b956e2ed1fe5872b6324b4ef88d728696166bf", func := "carillon/carillonlaw22.MgmtTimes", spec := "mgmtTimes", unfollowed := true, recurses := true, apart := false, narrowed := true }
def MgmtTimesUptoSaid : Prop := mgmtTimesUptoRow.holds Try.pinned (OpenSpec.upto mgmtTimesSpec)

end Rows
end Go.Proofs.Ytccjnkhodgbghaa
