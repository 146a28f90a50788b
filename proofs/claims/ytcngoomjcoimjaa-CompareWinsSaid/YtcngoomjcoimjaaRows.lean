/-
  No cell of these rows narrows 'for every input' (looked for: loops, veiled, ifaces, maps, wideKeys, modest, calm, conditions, laid).
  DERIVED. THE GIVEN ROWS OF THIS SEAT. 6 by the template 'for every input the law returns true; each argument reads behind the call as it read before'; 0 by the template 'total and deterministic' (their statements: YtcngoomjcoimjaaTotals.lean).
  GIVEN WITH THE SEED: the statements are not yours to turn. If you find one false, say at which input.
  Laid BY PROGRAM, IN A SANDBOX (cutbox-rows.mjs): the forced cells as the released guide's own fill.sh prints them over the translation 7adfa461989b02de… (all of the seat's roots in one cut). By AI agents, Wed Nov 11 2026. No macro, syntax, notation, axiom, sorry.
-/
import Derived.Test.YtcngoomjcoimjaaChecked
import GoSem.Claim
import GoSem.ClaimJoined
import GoSem.ClaimMapViews
import Derived.JoinedTies
import Derived.KernelRfl
namespace Go.Proofs.Ytcngoomjcoimjaa
/- THE CELL 'sum', in the pinned program and in every row, IS THE sha256 OF THE DUMP (.gsa) THAT YtcngoomjcoimjaaProg.lean LOADS. Nothing in Lean hashes anything: it is a label: what it is worth is what the hold of that sum in a sandbox is worth. -/
noncomputable def Try.pinned : Pinned := { name := "ytcngoomjcoimjaa", sum := "7adfa461989b02dee9e14fa49cd81f8b79eed7e376d61aa5e7420cc4137579de", checked := Try.checked }
namespace Rows
def none {H : Type} : Left H := { results := [], args := [] }

/-- 'carillonlaw11.CompareBack': WHATEVER THE INPUT: true; the input reads as it did. -/
def compareBackSpec : ChangeSpec := { name := "compareBack", fn := fun _ => fun
  | [d1, d2] => { results := [.lit (.bool true)], args := [d1, d2] }
  | _ => none }
def compareBackRow : OpenClaim := { program := "ytcngoomjcoimjaa", sum := "7adfa461989b02dee9e14fa49cd81f8b79eed7e376d61aa5e7420cc4137579de", func := "carillon/carillonlaw11.CompareBack", spec := "compareBack", apart := false }
def CompareBackSaid : Prop := compareBackRow.holds Try.pinned (OpenSpec.ofChange compareBackSpec)

/-- ITS FALSE NEIGHBOUR: 'it returns false'. Refute it at one input. -/
def compareBackWrong : ChangeSpec := { name := "compareBack", fn := fun _ => fun
  | [d1, d2] => { results := [.lit (.bool false)], args := [d1, d2] }
  | _ => none }
def CompareBackWrongFalsely : Prop := compareBackRow.holds Try.pinned (OpenSpec.ofChange compareBackWrong)

/-- 'carillonlaw11.CompareOrder': WHATEVER THE INPUT: true; the input reads as it did. -/
def compareOrderSpec : ChangeSpec := { name := "compareOrder", fn := fun _ => fun
  | [d1, d2, d3] => { results := [.lit (.bool true)], args := [d1, d2, d3] }
  | _ => none }
def compareOrderRow : OpenClaim := { program := "ytcngoomjcoimjaa", sum := "7adfa461989b02dee9e14fa49cd81f8b79eed7e376d61aa5e7420cc4137579de", func := "carillon/carillonlaw11.CompareOrder", spec := "compareOrder", apart := false }
def CompareOrderSaid : Prop := compareOrderRow.holds Try.pinned (OpenSpec.ofChange compareOrderSpec)

/-- ITS FALSE NEIGHBOUR: 'it returns false'. Refute it at one input. -/
def compareOrderWrong : ChangeSpec := { name := "compareOrder", fn := fun _ => fun
  | [d1, d2, d3] => { results := [.lit (.bool false)], args := [d1, d2, d3] }
  | _ => none }
def CompareOrderWrongFalsely : Prop := compareOrderRow.holds Try.pinned (OpenSpec.ofChange compareOrderWrong)

/-- 'carillonlaw11.CompareSteps': WHATEVER THE INPUT: true; the input reads as it did. -/
def compareStepsSpec : ChangeSpec := { name := "compareSteps", fn := fun _ => fun
  | [d1, d2, d3] => { results := [.lit (.bool true)], args := [d1, d2, d3] }
  | _ => none }
def compareStepsRow : OpenClaim := { program := "ytcngoomjcoimjaa", sum := "7adfa461989b02dee9e14fa49cd81f8b79eed7e376d61aa5e7420cc4137579de", func := "carillon/carillonlaw11.CompareSteps", spec := "compareSteps", apart := false }
def CompareStepsSaid : Prop := compareStepsRow.holds Try.pinned (OpenSpec.ofChange compareStepsSpec)

/-- ITS FALSE NEIGHBOUR: 'it returns false'. Refute it at one input. -/
def compareStepsWrong : ChangeSpec := { name := "compareSteps", fn := fun _ => fun
  | [d1, d2, d3] => { results := [.lit (.bool false)], args := [d1, d2, d3] }
  | _ => none }
def CompareStepsWrongFalsely : Prop := compareStepsRow.holds Try.pinned (OpenSpec.ofChange compareStepsWrong)

/-- 'carillonlaw11.CompareWins': WHATEVER THE INPUT: true; the input reads as it did. -/
def compareWinsSpec : ChangeSpec := { name := "compareWins", fn := fun _ => fun
  | [d] => { results := [.lit (.bool true)], args := [d] }
  | _ => none }
def compareWinsRow : OpenClaim := { program := "ytcngoomjcoimjaa", sum := "7adfa461989b02dee9e14fa49cd81f8b79eed7e376d61aa5e7420cc4137579de", func := "carillon/carillonlaw11.CompareWins", spec := "compareWins", apart := false }
def CompareWinsSaid : Prop := compareWinsRow.holds Try.pinned (OpenSpec.ofChange compareWinsSpec)

/-- ITS FALSE NEIGHBOUR: 'it returns false'. Refute it at one input. -/
def compareWinsWrong : ChangeSpec := { name := "compareWins", fn := fun _ => fun
  | [d] => { results := [.lit (.bool false)], args := [d] }
  | _ => none }
def CompareWinsWrongFalsely : Prop := compareWinsRow.holds Try.pinned (OpenSpec.ofChange compareWinsWrong)

/-- 'carillonlaw11.CompareOwn': WHATEVER THE INPUT: true; the input reads as it did. -/
def compareOwnSpec : ChangeSpec := { name := "compareOwn", fn := fun _ => fun
  | [d1, d2] => { results := [.lit (.bool true)], args := [d1, d2] }
  | _ => none }
def compareOwnRow : OpenClaim := { program := "ytcngoomjcoimjaa", sum := "7adfa461989b02dee9e14fa49cd81f8b79eed7e376d61aa5e7420cc4137579de", func := "carillon/carillonlaw11.CompareOwn", spec := "compareOwn", apart := false }
def CompareOwnSaid : Prop := compareOwnRow.holds Try.pinned (OpenSpec.ofChange compareOwnSpec)

/-- ITS FALSE NEIGHBOUR: 'it returns false'. Refute it at one input. -/
def compareOwnWrong : ChangeSpec := { name := "compareOwn", fn := fun _ => fun
  | [d1, d2] => { results := [.lit (.bool false)], args := [d1, d2] }
  | _ => none }
def CompareOwnWrongFalsely : Prop := compareOwnRow.holds Try.pinned (OpenSpec.ofChange compareOwnWrong)

/-- 'carillonlaw11.CompareRing': WHATEVER THE INPUT: true; the input reads as it did. -/
def compareRingSpec : ChangeSpec := { name := "compareRing", fn := fun _ => fun
  | [d1, d2, d3] => { results := [.lit (.bool true)], args := [d1, d2, d3] }
  | _ => none }
def compareRingRow : OpenClaim := { program := "ytcngoomjcoimjaa", sum := "7adfa461989b02dee9e14fa49cd81f8b79eed7e376d61aa5e7420cc4137579de", func := "carillon/carillonlaw11.CompareRing", spec := "compareRing", apart := false }
def CompareRingSaid : Prop := compareRingRow.holds Try.pinned (OpenSpec.ofChange compareRingSpec)

/-- ITS FALSE NEIGHBOUR: 'it returns false'. Refute it at one input. -/
def compareRingWrong : ChangeSpec := { name := "compareRing", fn := fun _ => fun
  | [d1, d2, d3] => { results := [.lit (.bool false)], args := [d1, d2, d3] }
  | _ => none }
def CompareRingWrongFalsely : Prop := compareRingRow.holds Try.pinned (OpenSpec.ofChange compareRingWrong)

/- THE SECOND FORM. 'bulk': how many values and letters a reading holds, each counted each time it is reached (what is shared counts as often as it is met; a slice's spare places count too). A statement '..UptoSaid' is the law's where the arguments, and the package variables that the reading takes, are together of bulk at most 1048576: NARROWER than '..Said'. Prove '..Said' where nothing that the law and all that it calls make is longer than what came in: it says more and counts as full. Else prove '..UptoSaid'. A law counts once. -/
mutual
def uptoBulk {H : Type} : DataW H → Nat
  | .lit (.string bytes) => bytes.length + 1
  | .lit _ => 1
  | .nil => 1
  | .ptr d => uptoBulk d + 1
  | .slice elems spare => uptoBulkAll elems + uptoBulkAll spare + 1
  | .agg parts => uptoBulkAll parts + 1
  | .iface _ d => uptoBulk d + 1
  | .map entries => uptoBulkEntries entries + 1
  | .held _ => 1
def uptoBulkAll {H : Type} : List (DataW H) → Nat
  | [] => 0
  | d :: r => uptoBulk d + uptoBulkAll r
def uptoBulkEntries {H : Type} : List (Lit × DataW H) → Nat
  | [] => 0
  | x :: r => uptoBulkEntry x + uptoBulkEntries r
def uptoBulkEntry {H : Type} : Lit × DataW H → Nat
  | (.string bytes, d) => bytes.length + uptoBulk d + 1
  | (_, d) => uptoBulk d + 1
 end
def uptoSmall : (H : Type) → List (DataW H) → Bool := fun _ ds => decide (uptoBulkAll ds ≤ 1048576)
def OpenSpec.upto (s : _root_.Go.ChangeSpec) : _root_.Go.OpenSpec := { _root_.Go.OpenSpec.ofChange s with cond := some uptoSmall }

/-- 'carillonlaw11.CompareBack', WHERE WHAT IT READS IS OF BULK AT MOST 1048576: true; the input reads as it did. -/
def compareBackUptoRow : OpenClaim := { program := "ytcngoomjcoimjaa", sum := "7adfa461989b02dee9e14fa49cd81f8b79eed7e376d61aa5e7420cc4137579de", func := "carillon/carillonlaw11.CompareBack", spec := "compareBack", apart := false, narrowed := true }
def CompareBackUptoSaid : Prop := compareBackUptoRow.holds Try.pinned (OpenSpec.upto compareBackSpec)

/-- 'carillonlaw11.CompareOrder', WHERE WHAT IT READS IS OF BULK AT MOST 1048576: true; the input reads as it did. -/
def compareOrderUptoRow : OpenClaim := { program := "ytcngoomjcoimjaa", sum := "7adfa461989b02dee9e14fa49cd81f8b79eed7e376d61aa5e7420cc4137579de", func := "carillon/carillonlaw11.CompareOrder", spec := "compareOrder", apart := false, narrowed := true }
def CompareOrderUptoSaid : Prop := compareOrderUptoRow.holds Try.pinned (OpenSpec.upto compareOrderSpec)

/-- 'carillonlaw11.CompareSteps', WHERE WHAT IT READS IS OF BULK AT MOST 1048576: true; the input reads as it did. -/
def compareStepsUptoRow : OpenClaim := { program := "ytcngoomjcoimjaa", sum := "7adfa461989b02dee9e14fa49cd81f8b79eed7e376d61aa5e7420cc4137579de", func := "carillon/carillonlaw11.CompareSteps", spec := "compareSteps", apart := false, narrowed := true }
def CompareStepsUptoSaid : Prop := compareStepsUptoRow.holds Try.pinned (OpenSpec.upto compareStepsSpec)

/-- 'carillonlaw11.CompareWins', WHERE WHAT IT READS IS OF BULK AT MOST 1048576: true; the input reads as it did. -/
def compareWinsUptoRow : OpenClaim := { program := "ytcngoomjcoimjaa", sum := "7adfa461989b02dee9e14fa49cd81f8b79eed7e376d61aa5e7420cc4137579de", func := "carillon/carillonlaw11.CompareWins", spec := "compareWins", apart := false, narrowed := true }
def CompareWinsUptoSaid : Prop := compareWinsUptoRow.holds Try.pinned (OpenSpec.upto compareWinsSpec)

/-- 'carillonlaw11.CompareOwn', WHERE WHAT IT READS IS OF BULK AT MOST 1048576: true; the input reads as it did. -/
def compareOwnUptoRow : OpenClaim := { program := "ytcngoomjcoimjaa", sum := "7adfa461989b02dee9e14fa49cd81f8b79eed7e376d61aa5e7420cc4137579de", func := "carillon/carillonlaw11.CompareOwn", spec := "compareOwn", apart := false, narrowed := true }
def CompareOwnUptoSaid : Prop := compareOwnUptoRow.holds Try.pinned (OpenSpec.upto compareOwnSpec)

/-- 'carillonlaw11.CompareRing', WHERE WHAT IT READS IS OF BULK AT MOST 1048576: true; the input reads as it did. -/
def compareRingUptoRow : OpenClaim := { program := "ytcngoomjcoimjaa", sum := "7adfa461989b02dee9e14fa49cd81f8b79eed7e376d61aa5e7420cc4137579de", func := "carillon/carillonlaw11.CompareRing", spec := "compareRing", apart := false, narrowed := true }
def CompareRingUptoSaid : Prop := compareRingUptoRow.holds Try.pinned (OpenSpec.upto compareRingSpec)

end Rows
end Go.Proofs.Ytcngoomjcoimjaa
