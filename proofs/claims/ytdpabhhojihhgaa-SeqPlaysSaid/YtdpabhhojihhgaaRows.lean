/-
  No cell of these rows narrows 'for every input' (looked for: loops, veiled, ifaces, maps, wideKeys, modest, calm, conditions, laid).
  DERIVED. THE GIVEN ROWS OF THIS SEAT. 6 by the template 'for every input the law returns true; each argument reads behind the call as it read before'; 0 by the template 'total and deterministic' (their statements: YtdpabhhojihhgaaTotals.lean).
  GIVEN WITH THE SEED: the statements are not yours to turn. If you find one false, say at which input.
  Laid BY PROGRAM, IN A SANDBOX (cutbox-rows.mjs): the forced cells as the released guide's own fill.sh prints them over the translation b18f5f6d2d494463… (all of the seat's roots in one cut). By AI agents, Wed Nov 11 2026. No macro, syntax, notation, axiom, sorry.
-/
import Derived.Test.YtdpabhhojihhgaaChecked
import GoSem.Claim
import GoSem.ClaimJoined
import GoSem.ClaimMapViews
import Derived.JoinedTies
import Derived.KernelRfl
namespace Go.Proofs.Ytdpabhhojihhgaa
/- THE CELL 'sum', in the pinned program and in every row, IS THE sha256 OF THE DUMP (.gsa) THAT YtdpabhhojihhgaaProg.lean LOADS. Nothing in Lean hashes anything: it is a label: what it is worth is what the hold of that sum in a sandbox is worth. -/
noncomputable def Try.pinned : Pinned := { name := "ytdpabhhojihhgaa", sum := "b18f5f6d2d4944638f893adf2678a06306569beb0de88d194bf22c95d16c52a4", checked := Try.checked }
namespace Rows
def none {H : Type} : Left H := { results := [], args := [] }

/-- 'carillonlaw16.SeqPlays': WHATEVER THE INPUT: true; the input reads as it did. -/
def seqPlaysSpec : ChangeSpec := { name := "seqPlays", fn := fun _ => fun
  | [d1, d2, d3] => { results := [.lit (.bool true)], args := [d1, d2, d3] }
  | _ => none }
def seqPlaysRow : OpenClaim := { program := "ytdpabhhojihhgaa", sum := "b18f5f6d2d4944638f893adf2678a06306569beb0de88d194bf22c95d16c52a4", func := "carillon/carillonlaw16.SeqPlays", spec := "seqPlays", apart := false }
def SeqPlaysSaid : Prop := seqPlaysRow.holds Try.pinned (OpenSpec.ofChange seqPlaysSpec)

/-- ITS FALSE NEIGHBOUR: 'it returns false'. Refute it at one input. -/
def seqPlaysWrong : ChangeSpec := { name := "seqPlays", fn := fun _ => fun
  | [d1, d2, d3] => { results := [.lit (.bool false)], args := [d1, d2, d3] }
  | _ => none }
def SeqPlaysWrongFalsely : Prop := seqPlaysRow.holds Try.pinned (OpenSpec.ofChange seqPlaysWrong)

/-- 'carillonlaw16.SeqSteps': WHATEVER THE INPUT: true; the input reads as it did. -/
def seqStepsSpec : ChangeSpec := { name := "seqSteps", fn := fun _ => fun
  | [d1, d2, d3, d4, d5, d6] => { results := [.lit (.bool true)], args := [d1, d2, d3, d4, d5, d6] }
  | _ => none }
def seqStepsRow : OpenClaim := { program := "ytdpabhhojihhgaa", sum := "b18f5f6d2d4944638f893adf2678a06306569beb0de88d194bf22c95d16c52a4", func := "carillon/carillonlaw16.SeqSteps", spec := "seqSteps", apart := false }
def SeqStepsSaid : Prop := seqStepsRow.holds Try.pinned (OpenSpec.ofChange seqStepsSpec)

/-- ITS FALSE NEIGHBOUR: 'it returns false'. Refute it at one input. -/
def seqStepsWrong : ChangeSpec := { name := "seqSteps", fn := fun _ => fun
  | [d1, d2, d3, d4, d5, d6] => { results := [.lit (.bool false)], args := [d1, d2, d3, d4, d5, d6] }
  | _ => none }
def SeqStepsWrongFalsely : Prop := seqStepsRow.holds Try.pinned (OpenSpec.ofChange seqStepsWrong)

/-- 'carillonlaw16.SeqApart': WHATEVER THE INPUT: true; the input reads as it did. -/
def seqApartSpec : ChangeSpec := { name := "seqApart", fn := fun _ => fun
  | [d1, d2, d3, d4] => { results := [.lit (.bool true)], args := [d1, d2, d3, d4] }
  | _ => none }
def seqApartRow : OpenClaim := { program := "ytdpabhhojihhgaa", sum := "b18f5f6d2d4944638f893adf2678a06306569beb0de88d194bf22c95d16c52a4", func := "carillon/carillonlaw16.SeqApart", spec := "seqApart", apart := false }
def SeqApartSaid : Prop := seqApartRow.holds Try.pinned (OpenSpec.ofChange seqApartSpec)

/-- ITS FALSE NEIGHBOUR: 'it returns false'. Refute it at one input. -/
def seqApartWrong : ChangeSpec := { name := "seqApart", fn := fun _ => fun
  | [d1, d2, d3, d4] => { results := [.lit (.bool false)], args := [d1, d2, d3, d4] }
  | _ => none }
def SeqApartWrongFalsely : Prop := seqApartRow.holds Try.pinned (OpenSpec.ofChange seqApartWrong)

/-- 'carillonlaw16.SeqOrder': WHATEVER THE INPUT: true; the input reads as it did. -/
def seqOrderSpec : ChangeSpec := { name := "seqOrder", fn := fun _ => fun
  | [d1, d2] => { results := [.lit (.bool true)], args := [d1, d2] }
  | _ => none }
def seqOrderRow : OpenClaim := { program := "ytdpabhhojihhgaa", sum := "b18f5f6d2d4944638f893adf2678a06306569beb0de88d194bf22c95d16c52a4", func := "carillon/carillonlaw16.SeqOrder", spec := "seqOrder", apart := false }
def SeqOrderSaid : Prop := seqOrderRow.holds Try.pinned (OpenSpec.ofChange seqOrderSpec)

/-- ITS FALSE NEIGHBOUR: 'it returns false'. Refute it at one input. -/
def seqOrderWrong : ChangeSpec := { name := "seqOrder", fn := fun _ => fun
  | [d1, d2] => { results := [.lit (.bool false)], args := [d1, d2] }
  | _ => none }
def SeqOrderWrongFalsely : Prop := seqOrderRow.holds Try.pinned (OpenSpec.ofChange seqOrderWrong)

/-- 'carillonlaw16.SeqMany': WHATEVER THE INPUT: true; the input reads as it did. -/
def seqManySpec : ChangeSpec := { name := "seqMany", fn := fun _ => fun
  | [d1, d2, d3] => { results := [.lit (.bool true)], args := [d1, d2, d3] }
  | _ => none }
def seqManyRow : OpenClaim := { program := "ytdpabhhojihhgaa", sum := "b18f5f6d2d4944638f893adf2678a06306569beb0de88d194bf22c95d16c52a4", func := "carillon/carillonlaw16.SeqMany", spec := "seqMany", apart := false }
def SeqManySaid : Prop := seqManyRow.holds Try.pinned (OpenSpec.ofChange seqManySpec)

/-- ITS FALSE NEIGHBOUR: 'it returns false'. Refute it at one input. -/
def seqManyWrong : ChangeSpec := { name := "seqMany", fn := fun _ => fun
  | [d1, d2, d3] => { results := [.lit (.bool false)], args := [d1, d2, d3] }
  | _ => none }
def SeqManyWrongFalsely : Prop := seqManyRow.holds Try.pinned (OpenSpec.ofChange seqManyWrong)

/-- 'carillonlaw16.SeqLatest': WHATEVER THE INPUT: true; the input reads as it did. -/
def seqLatestSpec : ChangeSpec := { name := "seqLatest", fn := fun _ => fun
  | [d1, d2] => { results := [.lit (.bool true)], args := [d1, d2] }
  | _ => none }
def seqLatestRow : OpenClaim := { program := "ytdpabhhojihhgaa", sum := "b18f5f6d2d4944638f893adf2678a06306569beb0de88d194bf22c95d16c52a4", func := "carillon/carillonlaw16.SeqLatest", spec := "seqLatest", apart := false }
def SeqLatestSaid : Prop := seqLatestRow.holds Try.pinned (OpenSpec.ofChange seqLatestSpec)

/-- ITS FALSE NEIGHBOUR: 'it returns false'. Refute it at one input. -/
def seqLatestWrong : ChangeSpec := { name := "seqLatest", fn := fun _ => fun
  | [d1, d2] => { results := [.lit (.bool false)], args := [d1, d2] }
  | _ => none }
def SeqLatestWrongFalsely : Prop := seqLatestRow.holds Try.pinned (OpenSpec.ofChange seqLatestWrong)

/- THE SECOND FORM. 'bulk': how many values and letters a reading holds, each counted each time it is reached (what is shared counts as often as it is met; a slice's spare places count too). A statement '..UptoSaid' is the law's where the arguments, and the package variables that the reading takes, are together of bulk at most 1048576: NARROWER than '..Said'. Prove '..Said' where nothing that the law and all that it calls make is longer than what came in: it says more and counts as full. Else prove '..UptoSaid'. A law counts once. -/
mutual
def uptoBulk {H : Type} : DataW H → Nat
  | .lit (.string bytes) => bytes.length + 1
  | .lit _ => 1
  | .nil => 1
  | .ptr d => uptoBulk d + 1
  | .slice elems spare => uptoBulkAll elems + uptoBulkAll spare + 1
  | .agg parts => uptoBulkAll parts + 1
  | .iface _ d => uptoBulk d + 1
  | .map entries => uptoBulkEntries entries + 1
  | .held _ => 1
def uptoBulkAll {H : Type} : List (DataW H) → Nat
  | [] => 0
  | d :: r => uptoBulk d + uptoBulkAll r
def uptoBulkEntries {H : Type} : List (Lit × DataW H) → Nat
  | [] => 0
  | x :: r => uptoBulkEntry x + uptoBulkEntries r
def uptoBulkEntry {H : Type} : Lit × DataW H → Nat
  | (.string bytes, d) => bytes.length + uptoBulk d + 1
  | (_, d) => uptoBulk d + 1
 end
def uptoSmall : (H : Type) → List (DataW H) → Bool := fun _ ds => decide (uptoBulkAll ds ≤ 1048576)
def OpenSpec.upto (s : _root_.Go.ChangeSpec) : _root_.Go.OpenSpec := { _root_.Go.OpenSpec.ofChange s with cond := some uptoSmall }

/-- 'carillonlaw16.SeqPlays', WHERE WHAT IT READS IS OF BULK AT MOST 1048576: true; the input reads as it did. -/
def seqPlaysUptoRow : OpenClaim := { program := "ytdpabhhojihhgaa", sum := "b18f5f6d2d4944638f893adf2678a06306569beb0de88d194bf22c95d16c52a4", func := "carillon/carillonlaw16.SeqPlays", spec := "seqPlays", apart := false, narrowed := true }
def SeqPlaysUptoSaid : Prop := seqPlaysUptoRow.holds Try.pinned (OpenSpec.upto seqPlaysSpec)

/-- 'carillonlaw16.SeqSteps', WHERE WHAT IT READS IS OF BULK AT MOST 1048576: true; the input reads as it did. -/
def seqStepsUptoRow : OpenClaim := { program := "ytdpabhhojihhgaa", sum := "b18f5f6d2d4944638f893adf2678a06306569beb0de88d194bf22c95d16c52a4", func := "carillon/carillonlaw16.SeqSteps", spec := "seqSteps", apart := false, narrowed := true }
def SeqStepsUptoSaid : Prop := seqStepsUptoRow.holds Try.pinned (OpenSpec.upto seqStepsSpec)

/-- 'carillonlaw16.SeqApart', WHERE WHAT IT READS IS OF BULK AT MOST 1048576: true; the input reads as it did. -/
def seqApartUptoRow : OpenClaim := { program := "ytdpabhhojihhgaa", sum := "b18f5f6d2d4944638f893adf2678a06306569beb0de88d194bf22c95d16c52a4", func := "carillon/carillonlaw16.SeqApart", spec := "seqApart", apart := false, narrowed := true }
def SeqApartUptoSaid : Prop := seqApartUptoRow.holds Try.pinned (OpenSpec.upto seqApartSpec)

/-- 'carillonlaw16.SeqOrder', WHERE WHAT IT READS IS OF BULK AT MOST 1048576: true; the input reads as it did. -/
def seqOrderUptoRow : OpenClaim := { program := "ytdpabhhojihhgaa", sum := "b18f5f6d2d4944638f893adf2678a06306569beb0de88d194bf22c95d16c52a4", func := "carillon/carillonlaw16.SeqOrder", spec := "seqOrder", apart := false, narrowed := true }
def SeqOrderUptoSaid : Prop := seqOrderUptoRow.holds Try.pinned (OpenSpec.upto seqOrderSpec)

/-- 'carillonlaw16.SeqMany', WHERE WHAT IT READS IS OF BULK AT MOST 1048576: true; the input reads as it did. -/
def seqManyUptoRow : OpenClaim := { program := "ytdpabhhojihhgaa", sum := "b18f5f6d2d4944638f893adf2678a06306569beb0de88d194bf22c95d16c52a4", func := "carillon/carillonlaw16.SeqMany", spec := "seqMany", apart := false, narrowed := true }
def SeqManyUptoSaid : Prop := seqManyUptoRow.holds Try.pinned (OpenSpec.upto seqManySpec)

/-- 'carillonlaw16.SeqLatest', WHERE WHAT IT READS IS OF BULK AT MOST 1048576: true; the input reads as it did. -/
def seqLatestUptoRow : OpenClaim := { program := "ytdpabhhojihhgaa", sum := "b18f5f6d2d4944638f893adf2678a06306569beb0de88d194bf22c95d16c52a4", func := "carillon/carillonlaw16.SeqLatest", spec := "seqLatest", apart := false, narrowed := true }
def SeqLatestUptoSaid : Prop := seqLatestUptoRow.holds Try.pinned (OpenSpec.upto seqLatestSpec)

end Rows
end Go.Proofs.Ytdpabhhojihhgaa
