/-
  No cell of these rows narrows 'for every input' (looked for: loops, veiled, ifaces, maps, wideKeys, modest, calm, conditions, laid).
  DERIVED. THE GIVEN ROWS OF THIS SEAT. 12 by the template 'for every input the law returns true; each argument reads behind the call as it read before'; 0 by the template 'total and deterministic' (their statements: YtgnabnhggaondaaGreatTotals.lean).
  GIVEN WITH THE SEED: the statements are not yours to turn. If you find one false, say at which input.
  Laid BY PROGRAM, IN A SANDBOX (cutbox-rows.mjs): the forced cells as the released guide's own fill.sh prints them over the translation fa7b4e312e6f379c… (all of the seat's roots in one cut). By AI agents, Wed Nov 11 2026. No macro, syntax, notation, axiom, sorry.
-/
import Derived.Test.YtgnabnhggaondaaGreatChecked
import GoSem.Claim
import GoSem.ClaimJoined
import GoSem.ClaimMapViews
import Derived.JoinedTies
import Derived.KernelRfl
namespace Go.Proofs.YtgnabnhggaondaaGreat
/- THE CELL 'sum', in the pinned program and in every row, IS THE sha256 OF THE DUMP (.gsa) THAT YtgnabnhggaondaaGreatProg.lean LOADS. Nothing in Lean hashes anything: it is a label: what it is worth is what the hold of that sum in a sandbox is worth. -/
noncomputable def Tryz.pinned : Pinned := { name := "ytgnabnhggaondaagreat", sum := "fa7b4e312e6f379c15c75ca70d242a4e4ab396c6b28dc58535af18c965004d08", checked := Tryz.checked }
namespace Rows
def none {H : Type} : Left H := { results := [], args := [] }

/-- 'carillonlaw23.ClockDisables': WHATEVER THE INPUT: true; the input reads as it did. -/
def clockDisablesSpec : ChangeSpec := { name := "clockDisables", fn := fun _ => fun
  | [d1, d2] => { results := [.lit (.bool true)], args := [d1, d2] }
  | _ => none }
def clockDisablesRow : OpenClaim := { program := "ytgnabnhggaondaagreat", sum := "fa7b4e312e6f379c15c75ca70d242a4e4ab396c6b28dc58535af18c965004d08", func := "carillon/carillonlaw23.ClockDisables", spec := "clockDisables", inPlace := ["math.archTrunc", "math.Float64bits", "math.Float64frombits"], unfollowed := true, recurses := true, plainKeys := false, apart := false }
def ClockDisablesSaid : Prop := clockDisablesRow.holds Tryz.pinned (OpenSpec.ofChange clockDisablesSpec)

/-- ITS FALSE NEIGHBOUR: 'it returns false'. Refute it at one input. -/
def clockDisablesWrong : ChangeSpec := { name := "clockDisables", fn := fun _ => fun
  | [d1, d2] => { results := [.lit (.bool false)], args := [d1, d2] }
  | _ => none }
def ClockDisablesWrongFalsely : Prop := clockDisablesRow.holds Tryz.pinned (OpenSpec.ofChange clockDisablesWrong)

/-- 'carillonlaw23.ClockStamps': WHATEVER THE INPUT: true; the input reads as it did. -/
def clockStampsSpec : ChangeSpec := { name := "clockStamps", fn := fun _ => fun
  | [d1, d2, d3] => { results := [.lit (.bool true)], args := [d1, d2, d3] }
  | _ => none }
def clockStampsRow : OpenClaim := { program := "ytgnabnhggaondaagreat", sum := "fa7b4e312e6f379c15c75ca70d242a4e4ab396c6b28dc58535af18c965004d08", func := "carillon/carillonlaw23.ClockStamps", spec := "clockStamps", inPlace := ["math.archTrunc", "math.Float64bits", "math.Float64frombits"], plainKeys := false, apart := false }
def ClockStampsSaid : Prop := clockStampsRow.holds Tryz.pinned (OpenSpec.ofChange clockStampsSpec)

/-- ITS FALSE NEIGHBOUR: 'it returns false'. Refute it at one input. -/
def clockStampsWrong : ChangeSpec := { name := "clockStamps", fn := fun _ => fun
  | [d1, d2, d3] => { results := [.lit (.bool false)], args := [d1, d2, d3] }
  | _ => none }
def ClockStampsWrongFalsely : Prop := clockStampsRow.holds Tryz.pinned (OpenSpec.ofChange clockStampsWrong)

/-- 'carillonlaw23.ClockOuts': WHATEVER THE INPUT: true; the input reads as it did. -/
def clockOutsSpec : ChangeSpec := { name := "clockOuts", fn := fun _ => fun
  | [d1, d2, d3] => { results := [.lit (.bool true)], args := [d1, d2, d3] }
  | _ => none }
def clockOutsRow : OpenClaim := { program := "ytgnabnhggaondaagreat", sum := "fa7b4e312e6f379c15c75ca70d242a4e4ab396c6b28dc58535af18c965004d08", func := "carillon/carillonlaw23.ClockOuts", spec := "clockOuts", inPlace := ["math.archTrunc", "math.Float64bits", "math.Float64frombits"], unfollowed := true, recurses := true, plainKeys := false, apart := false }
def ClockOutsSaid : Prop := clockOutsRow.holds Tryz.pinned (OpenSpec.ofChange clockOutsSpec)

/-- ITS FALSE NEIGHBOUR: 'it returns false'. Refute it at one input. -/
def clockOutsWrong : ChangeSpec := { name := "clockOuts", fn := fun _ => fun
  | [d1, d2, d3] => { results := [.lit (.bool false)], args := [d1, d2, d3] }
  | _ => none }
def ClockOutsWrongFalsely : Prop := clockOutsRow.holds Tryz.pinned (OpenSpec.ofChange clockOutsWrong)

/-- 'carillonlaw23.ClockForwards': WHATEVER THE INPUT: true; the input reads as it did. -/
def clockForwardsSpec : ChangeSpec := { name := "clockForwards", fn := fun _ => fun
  | [d1, d2, d3, d4, d5] => { results := [.lit (.bool true)], args := [d1, d2, d3, d4, d5] }
  | _ => none }
def clockForwardsRow : OpenClaim := { program := "ytgnabnhggaondaagreat", sum := "fa7b4e312e6f379c15c75ca70d242a4e4ab396c6b28dc58535af18c965004d08", func := "carillon/carillonlaw23.ClockForwards", spec := "clockForwards", inPlace := ["math.archTrunc", "math.Float64bits", "math.Float64frombits"], unfollowed := true, recurses := true, plainKeys := false, apart := false }
def ClockForwardsSaid : Prop := clockForwardsRow.holds Tryz.pinned (OpenSpec.ofChange clockForwardsSpec)

/-- ITS FALSE NEIGHBOUR: 'it returns false'. Refute it at one input. -/
def clockForwardsWrong : ChangeSpec := { name := "clockForwards", fn := fun _ => fun
  | [d1, d2, d3, d4, d5] => { results := [.lit (.bool false)], args := [d1, d2, d3, d4, d5] }
  | _ => none }
def ClockForwardsWrongFalsely : Prop := clockForwardsRow.holds Tryz.pinned (OpenSpec.ofChange clockForwardsWrong)

/-- 'carillonlaw23.ClockAlone': WHATEVER THE INPUT: true; the input reads as it did. -/
def clockAloneSpec : ChangeSpec := { name := "clockAlone", fn := fun _ => fun
  | [d1, d2, d3] => { results := [.lit (.bool true)], args := [d1, d2, d3] }
  | _ => none }
def clockAloneRow : OpenClaim := { program := "ytgnabnhggaondaagreat", sum := "fa7b4e312e6f379c15c75ca70d242a4e4ab396c6b28dc58535af18c965004d08", func := "carillon/carillonlaw23.ClockAlone", spec := "clockAlone", inPlace := ["math.archTrunc", "math.Float64bits", "math.Float64frombits"], plainKeys := false, apart := false }
def ClockAloneSaid : Prop := clockAloneRow.holds Tryz.pinned (OpenSpec.ofChange clockAloneSpec)

/-- ITS FALSE NEIGHBOUR: 'it returns false'. Refute it at one input. -/
def clockAloneWrong : ChangeSpec := { name := "clockAlone", fn := fun _ => fun
  | [d1, d2, d3] => { results := [.lit (.bool false)], args := [d1, d2, d3] }
  | _ => none }
def ClockAloneWrongFalsely : Prop := clockAloneRow.holds Tryz.pinned (OpenSpec.ofChange clockAloneWrong)

/-- 'carillonlaw23.ClockSlaveOnly': WHATEVER THE INPUT: true; the input reads as it did. -/
def clockSlaveOnlySpec : ChangeSpec := { name := "clockSlaveOnly", fn := fun _ => fun
  | [d1, d2, d3] => { results := [.lit (.bool true)], args := [d1, d2, d3] }
  | _ => none }
def clockSlaveOnlyRow : OpenClaim := { program := "ytgnabnhggaondaagreat", sum := "fa7b4e312e6f379c15c75ca70d242a4e4ab396c6b28dc58535af18c965004d08", func := "carillon/carillonlaw23.ClockSlaveOnly", spec := "clockSlaveOnly", inPlace := ["math.archTrunc", "math.Float64bits", "math.Float64frombits"], unfollowed := true, recurses := true, plainKeys := false, apart := false }
def ClockSlaveOnlySaid : Prop := clockSlaveOnlyRow.holds Tryz.pinned (OpenSpec.ofChange clockSlaveOnlySpec)

/-- ITS FALSE NEIGHBOUR: 'it returns false'. Refute it at one input. -/
def clockSlaveOnlyWrong : ChangeSpec := { name := "clockSlaveOnly", fn := fun _ => fun
  | [d1, d2, d3] => { results := [.lit (.bool false)], args := [d1, d2, d3] }
  | _ => none }
def ClockSlaveOnlyWrongFalsely : Prop := clockSlaveOnlyRow.holds Tryz.pinned (OpenSpec.ofChange clockSlaveOnlyWrong)

/-- 'carillonlaw23.ClockAnswers': WHATEVER THE INPUT: true; the input reads as it did. -/
def clockAnswersSpec : ChangeSpec := { name := "clockAnswers", fn := fun _ => fun
  | [d1, d2, d3, d4] => { results := [.lit (.bool true)], args := [d1, d2, d3, d4] }
  | _ => none }
def clockAnswersRow : OpenClaim := { program := "ytgnabnhggaondaagreat", sum := "fa7b4e312e6f379c15c75ca70d242a4e4ab396c6b28dc58535af18c965004d08", func := "carillon/carillonlaw23.ClockAnswers", spec := "clockAnswers", inPlace := ["math.archTrunc", "math.Float64bits", "math.Float64frombits"], plainKeys := false, apart := false }
def ClockAnswersSaid : Prop := clockAnswersRow.holds Tryz.pinned (OpenSpec.ofChange clockAnswersSpec)

/-- ITS FALSE NEIGHBOUR: 'it returns false'. Refute it at one input. -/
def clockAnswersWrong : ChangeSpec := { name := "clockAnswers", fn := fun _ => fun
  | [d1, d2, d3, d4] => { results := [.lit (.bool false)], args := [d1, d2, d3, d4] }
  | _ => none }
def ClockAnswersWrongFalsely : Prop := clockAnswersRow.holds Tryz.pinned (OpenSpec.ofChange clockAnswersWrong)

/-- 'carillonlaw23.ClockSamples': WHATEVER THE INPUT: true; the input reads as it did. -/
def clockSamplesSpec : ChangeSpec := { name := "clockSamples", fn := fun _ => fun
  | [d1, d2, d3] => { results := [.lit (.bool true)], args := [d1, d2, d3] }
  | _ => none }
def clockSamplesRow : OpenClaim := { program := "ytgnabnhggaondaagreat", sum := "fa7b4e312e6f379c15c75ca70d242a4e4ab396c6b28dc58535af18c965004d08", func := "carillon/carillonlaw23.ClockSamples", spec := "clockSamples", inPlace := ["math.archTrunc", "math.Float64bits", "math.Float64frombits"], unfollowed := true, recurses := true, plainKeys := false, apart := false }
def ClockSamplesSaid : Prop := clockSamplesRow.holds Tryz.pinned (OpenSpec.ofChange clockSamplesSpec)

/-- ITS FALSE NEIGHBOUR: 'it returns false'. Refute it at one input. -/
def clockSamplesWrong : ChangeSpec := { name := "clockSamples", fn := fun _ => fun
  | [d1, d2, d3] => { results := [.lit (.bool false)], args := [d1, d2, d3] }
  | _ => none }
def ClockSamplesWrongFalsely : Prop := clockSamplesRow.holds Tryz.pinned (OpenSpec.ofChange clockSamplesWrong)

/-- 'carillonlaw23.ClockSpoilt': WHATEVER THE INPUT: true; the input reads as it did. -/
def clockSpoiltSpec : ChangeSpec := { name := "clockSpoilt", fn := fun _ => fun
  | [d1, d2, d3, d4, d5, d6] => { results := [.lit (.bool true)], args := [d1, d2, d3, d4, d5, d6] }
  | _ => none }
def clockSpoiltRow : OpenClaim := { program := "ytgnabnhggaondaagreat", sum := "fa7b4e312e6f379c15c75ca70d242a4e4ab396c6b28dc58535af18c965004d08", func := "carillon/carillonlaw23.ClockSpoilt", spec := "clockSpoilt", inPlace := ["math.archTrunc", "math.Float64bits", "math.Float64frombits"], unfollowed := true, recurses := true, plainKeys := false, apart := false }
def ClockSpoiltSaid : Prop := clockSpoiltRow.holds Tryz.pinned (OpenSpec.ofChange clockSpoiltSpec)

/-- ITS FALSE NEIGHBOUR: 'it returns false'. Refute it at one input. -/
def clockSpoiltWrong : ChangeSpec := { name := "clockSpoilt", fn := fun _ => fun
  | [d1, d2, d3, d4, d5, d6] => { results := [.lit (.bool false)], args := [d1, d2, d3, d4, d5, d6] }
  | _ => none }
def ClockSpoiltWrongFalsely : Prop := clockSpoiltRow.holds Tryz.pinned (OpenSpec.ofChange clockSpoiltWrong)

/-- 'carillonlaw23.ClockOwn': WHATEVER THE INPUT: true; the input reads as it did. -/
def clockOwnSpec : ChangeSpec := { name := "clockOwn", fn := fun _ => fun
  | [d1, d2] => { results := [.lit (.bool true)], args := [d1, d2] }
  | _ => none }
def clockOwnRow : OpenClaim := { program := "ytgnabnhggaondaagreat", sum := "fa7b4e312e6f379c15c75ca70d242a4e4ab396c6b28dc58535af18c965004d08", func := "carillon/carillonlaw23.ClockOwn", spec := "clockOwn", inPlace := ["math.archTrunc", "math.Float64bits", "math.Float64frombits"], plainKeys := false, apart := false }
def ClockOwnSaid : Prop := clockOwnRow.holds Tryz.pinned (OpenSpec.ofChange clockOwnSpec)

/-- ITS FALSE NEIGHBOUR: 'it returns false'. Refute it at one input. -/
def clockOwnWrong : ChangeSpec := { name := "clockOwn", fn := fun _ => fun
  | [d1, d2] => { results := [.lit (.bool false)], args := [d1, d2] }
  | _ => none }
def ClockOwnWrongFalsely : Prop := clockOwnRow.holds Tryz.pinned (OpenSpec.ofChange clockOwnWrong)

/-- 'carillonlaw23.ClockDomains': WHATEVER THE INPUT: true; the input reads as it did. -/
def clockDomainsSpec : ChangeSpec := { name := "clockDomains", fn := fun _ => fun
  | [d1, d2] => { results := [.lit (.bool true)], args := [d1, d2] }
  | _ => none }
def clockDomainsRow : OpenClaim := { program := "ytgnabnhggaondaagreat", sum := "fa7b4e312e6f379c15c75ca70d242a4e4ab396c6b28dc58535af18c965004d08", func := "carillon/carillonlaw23.ClockDomains", spec := "clockDomains", inPlace := ["math.archTrunc", "math.Float64bits", "math.Float64frombits"], plainKeys := false, apart := false }
def ClockDomainsSaid : Prop := clockDomainsRow.holds Tryz.pinned (OpenSpec.ofChange clockDomainsSpec)

/-- ITS FALSE NEIGHBOUR: 'it returns false'. Refute it at one input. -/
def clockDomainsWrong : ChangeSpec := { name := "clockDomains", fn := fun _ => fun
  | [d1, d2] => { results := [.lit (.bool false)], args := [d1, d2] }
  | _ => none }
def ClockDomainsWrongFalsely : Prop := clockDomainsRow.holds Tryz.pinned (OpenSpec.ofChange clockDomainsWrong)

/-- 'carillonlaw23.ClockConfs': WHATEVER THE INPUT: true; the input reads as it did. -/
def clockConfsSpec : ChangeSpec := { name := "clockConfs", fn := fun _ => fun
  | [d] => { results := [.lit (.bool true)], args := [d] }
  | _ => none }
def clockConfsRow : OpenClaim := { program := "ytgnabnhggaondaagreat", sum := "fa7b4e312e6f379c15c75ca70d242a4e4ab396c6b28dc58535af18c965004d08", func := "carillon/carillonlaw23.ClockConfs", spec := "clockConfs", inPlace := ["math.archTrunc", "math.Float64bits", "math.Float64frombits"], plainKeys := false, apart := false }
def ClockConfsSaid : Prop := clockConfsRow.holds Tryz.pinned (OpenSpec.ofChange clockConfsSpec)

/-- ITS FALSE NEIGHBOUR: 'it returns false'. Refute it at one input. -/
def clockConfsWrong : ChangeSpec := { name := "clockConfs", fn := fun _ => fun
  | [d] => { results := [.lit (.bool false)], args := [d] }
  | _ => none }
def ClockConfsWrongFalsely : Prop := clockConfsRow.holds Tryz.pinned (OpenSpec.ofChange clockConfsWrong)

/- THE SECOND FORM. 'bulk': how many values and letters a reading holds, each counted each time it is reached (what is shared counts as often as it is met; a slice's spare places count too). A statement '..UptoSaid' is the law's where the arguments, and the package variables that the reading takes, are together of bulk at most 1048576: NARROWER than '..Said'. Prove '..Said' where nothing that the law and all that it calls make is longer than what came in: it says more and counts as full. Else prove '..UptoSaid'. A law counts once. -/
mutual
def uptoBulk {H : Type} : DataW H → Nat
  | .lit (.string bytes) => bytes.length + 1
  | .lit _ => 1
  | .nil => 1
  | .ptr d => uptoBulk d + 1
  | .slice elems spare => uptoBulkAll elems + uptoBulkAll spare + 1
  | .agg parts => uptoBulkAll parts + 1
  | .iface _ d => uptoBulk d + 1
  | .map entries => uptoBulkEntries entries + 1
  | .held _ => 1
def uptoBulkAll {H : Type} : List (DataW H) → Nat
  | [] => 0
  | d :: r => uptoBulk d + uptoBulkAll r
def uptoBulkEntries {H : Type} : List (Lit × DataW H) → Nat
  | [] => 0
  | x :: r => uptoBulkEntry x + uptoBulkEntries r
def uptoBulkEntry {H : Type} : Lit × DataW H → Nat
  | (.string bytes, d) => bytes.length + uptoBulk d + 1
  | (_, d) => uptoBulk d + 1
 end
def uptoSmall : (H : Type) → List (DataW H) → Bool := fun _ ds => decide (uptoBulkAll ds ≤ 1048576)
def OpenSpec.upto (s : _root_.Go.ChangeSpec) : _root_.Go.OpenSpec := { _root_.Go.OpenSpec.ofChange s with cond := some uptoSmall }

/-- 'carillonlaw23.ClockDisables', WHERE WHAT IT READS IS OF BULK AT MOST 1048576: true; the input reads as it did. -/
def clockDisablesUptoRow : OpenClaim := { program := "ytgnabnhggaondaagreat", sum := "fa7b4e312e6f379c15c75ca70d242a4e4ab396c6b28dc58535af18c965004d08", func := "carillon/carillonlaw23.ClockDisables", spec := "clockDisables", inPlace := ["math.archTrunc", "math.Float64bits", "math.Float64frombits"], unfollowed := true, recurses := true, plainKeys := false, apart := false, narrowed := true }
def ClockDisablesUptoSaid : Prop := clockDisablesUptoRow.holds Tryz.pinned (OpenSpec.upto clockDisablesSpec)

/-- 'carillonlaw23.ClockStamps', WHERE WHAT IT READS IS OF BULK AT MOST 1048576: true; the input reads as it did. -/
def clockStampsUptoRow : OpenClaim := { program := "ytgnabnhggaondaagreat", sum := "fa7b4e312e6f379c15c75ca70d242a4e4ab396c6b28dc58535af18c965004d08", func := "carillon/carillonlaw23.ClockStamps", spec := "clockStamps", inPlace := ["math.archTrunc", "math.Float64bits", "math.Float64frombits"], plainKeys := false, apart := false, narrowed := true }
def ClockStampsUptoSaid : Prop := clockStampsUptoRow.holds Tryz.pinned (OpenSpec.upto clockStampsSpec)

/-- 'carillonlaw23.ClockOuts', WHERE WHAT IT READS IS OF BULK AT MOST 1048576: true; the input reads as it did. -/
def clockOutsUptoRow : OpenClaim := { program := "ytgnabnhggaondaagreat", sum := "fa7b4e312e6f379c15c75ca70d242a4e4ab396c6b28dc58535af18c965004d08", func := "carillon/carillonlaw23.ClockOuts", spec := "clockOuts", inPlace := ["math.archTrunc", "math.Float64bits", "math.Float64frombits"], unfollowed := true, recurses := true, plainKeys := false, apart := false, narrowed := true }
def ClockOutsUptoSaid : Prop := clockOutsUptoRow.holds Tryz.pinned (OpenSpec.upto clockOutsSpec)

/-- 'carillonlaw23.ClockForwards', WHERE WHAT IT READS IS OF BULK AT MOST 1048576: true; the input reads as it did. -/
def clockForwardsUptoRow : OpenClaim := { program := "ytgnabnhggaondaagreat", sum := "fa7b4e312e6f379c15c75ca70d242a4e4ab396c6b28dc58535af18c965004d08", func := "carillon/carillonlaw23.ClockForwards", spec := "clockForwards", inPlace := ["math.archTrunc", "math.Float64bits", "math.Float64frombits"], unfollowed := true, recurses := true, plainKeys := false, apart := false, narrowed := true }
def ClockForwardsUptoSaid : Prop := clockForwardsUptoRow.holds Tryz.pinned (OpenSpec.upto clockForwardsSpec)

/-- 'carillonlaw23.ClockAlone', WHERE WHAT IT READS IS OF BULK AT MOST 1048576: true; the input reads as it did. -/
def clockAloneUptoRow : OpenClaim := { program := "ytgnabnhggaondaagreat", sum := "fa7b4e312e6f379c15c75ca70d242a4e4ab396c6b28dc58535af18c965004d08", func := "carillon/carillonlaw23.ClockAlone", spec := "clockAlone", inPlace := ["math.archTrunc", "math.Float64bits", "math.Float64frombits"], plainKeys := false, apart := false, narrowed := true }
def ClockAloneUptoSaid : Prop := clockAloneUptoRow.holds Tryz.pinned (OpenSpec.upto clockAloneSpec)

/-- 'carillonlaw23.ClockSlaveOnly', WHERE WHAT IT READS IS OF BULK AT MOST 1048576: true; the input reads as it did. -/
def clockSlaveOnlyUptoRow : OpenClaim := { program := "ytgnabnhggaondaagreat", sum := "fa7b4e312e6f379c15c75ca70d242a4e4ab396c6b28dc58535af18c965004d08", func := "carillon/carillonlaw23.ClockSlaveOnly", spec := "clockSlaveOnly", inPlace := ["math.archTrunc", "math.Float64bits", "math.Float64frombits"], unfollowed := true, recurses := true, plainKeys := false, apart := false, narrowed := true }
def ClockSlaveOnlyUptoSaid : Prop := clockSlaveOnlyUptoRow.holds Tryz.pinned (OpenSpec.upto clockSlaveOnlySpec)

/-- 'carillonlaw23.ClockAnswers', WHERE WHAT IT READS IS OF BULK AT MOST 1048576: true; the input reads as it did. -/
def clockAnswersUptoRow : OpenClaim := { program := "ytgnabnhggaondaagreat", sum := "fa7b4e312e6f379c15c75ca70d242a4e4ab396c6b28dc58535af18c965004d08", func := "carillon/carillonlaw23.ClockAnswers", spec := "clockAnswers", inPlace := ["math.archTrunc", "math.Float64bits", "math.Float64frombits"], plainKeys := false, apart := false, narrowed := true }
def ClockAnswersUptoSaid : Prop := clockAnswersUptoRow.holds Tryz.pinned (OpenSpec.upto clockAnswersSpec)

/-- 'carillonlaw23.ClockSamples', WHERE WHAT IT READS IS OF BULK AT MOST 1048576: true; the input reads as it did. -/
def clockSamplesUptoRow : OpenClaim := { program := "ytgnabnhggaondaagreat", sum := "fa7b4e312e6f379c15c75ca70d242a4e4ab396c6b28dc58535af18c965004d08", func := "carillon/carillonlaw23.ClockSamples", spec := "clockSamples", inPlace := ["math.archTrunc", "math.Float64bits", "math.Float64frombits"], unfollowed := true, recurses := true, plainKeys := false, apart := false, narrowed := true }
def ClockSamplesUptoSaid : Prop := clockSamplesUptoRow.holds Tryz.pinned (OpenSpec.upto clockSamplesSpec)

/-- 'carillonlaw23.ClockSpoilt', WHERE WHAT IT READS IS OF BULK AT MOST 1048576: true; the input reads as it did. -/
def clockSpoiltUptoRow : OpenClaim := { program := "ytgnabnhggaondaagreat", sum := "fa7b4e312e6f379c15c75ca70d242a4e4ab396c6b28dc58535af18c965004d08", func := "carillon/carillonlaw23.ClockSpoilt", spec := "clockSpoilt", inPlace := ["math.archTrunc", "math.Float64bits", "math.Float64frombits"], unfollowed := true, recurses := true, plainKeys := false, apart := false, narrowed := true }
def ClockSpoiltUptoSaid : Prop := clockSpoiltUptoRow.holds Tryz.pinned (OpenSpec.upto clockSpoiltSpec)

/-- 'carillonlaw23.ClockOwn', WHERE WHAT IT READS IS OF BULK AT MOST 1048576: true; the input reads as it did. -/
def clockOwnUptoRow : OpenClaim := { program := "ytgnabnhggaondaagreat", sum := "fa7b4e312e6f379c15c75ca70d242a4e4ab396c6b28dc58535af18c965004d08", func := "carillon/carillonlaw23.ClockOwn", spec := "clockOwn", inPlace := ["math.archTrunc", "math.Float64bits", "math.Float64frombits"], plainKeys := false, apart := false, narrowed := true }
def ClockOwnUptoSaid : Prop := clockOwnUptoRow.holds Tryz.pinned (OpenSpec.upto clockOwnSpec)

/-- 'carillonlaw23.ClockDomains', WHERE WHAT IT READS IS OF BULK AT MOST 1048576: true; the input reads as it did. -/
def clockDomainsUptoRow : OpenClaim := { program := "ytgnabnhggaondaagreat", sum := "fa7b4e312e6f379c15c75ca70d242a4e4ab396c6b28dc58535af18c965004d08", func := "carillon/carillonlaw23.ClockDomains", spec := "clockDomains", inPlace := ["math.archTrunc", "math.Float64bits", "math.Float64frombits"], plainKeys := false, apart := false, narrowed := true }
def ClockDomainsUptoSaid : Prop := clockDomainsUptoRow.holds Tryz.pinned (OpenSpec.upto clockDomainsSpec)

/-- 'carillonlaw23.ClockConfs', WHERE WHAT IT READS IS OF BULK AT MOST 1048576: true; the input reads as it did. -/
def clockConfsUptoRow : OpenClaim := { program := "ytgnabnhggaondaagreat", sum := "fa7b4e312e6f379c15c75ca70d242a4e4ab396c6b28dc58535af18c965004d08", func := "carillon/carillonlaw23.ClockConfs", spec := "clockConfs", inPlace := ["math.archTrunc", "math.Float64bits", "math.Float64frombits"], plainKeys := false, apart := false, narrowed := true }
def ClockConfsUptoSaid : Prop := clockConfsUptoRow.holds Tryz.pinned (OpenSpec.upto clockConfsSpec)

end Rows
end Go.Proofs.YtgnabnhggaondaaGreat
