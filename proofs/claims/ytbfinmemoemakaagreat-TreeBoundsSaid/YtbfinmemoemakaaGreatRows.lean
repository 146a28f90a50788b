/-
  No cell of these rows narrows 'for every input' (looked for: loops, veiled, ifaces, maps, wideKeys, modest, calm, conditions, laid).
  DERIVED. THE GIVEN ROWS OF THIS SEAT. 4 by the template 'for every input the law returns true; each argument reads behind the call as it read before'; 0 by the template 'total and deterministic' (their statements: YtbfinmemoemakaaGreatTotals.lean).
  GIVEN WITH THE SEED: the statements are not yours to turn. If you find one false, say at which input.
  Laid BY PROGRAM, IN A SANDBOX (cutbox-rows.mjs): the forced cells as the released guide's own fill.sh prints them over the translation a83db3fa2f251357… (all of the seat's roots in one cut). By AI agents, Wed Nov 11 2026. No macro, syntax, notation, axiom, sorry.
-/
import Derived.Test.YtbfinmemoemakaaGreatChecked
import GoSem.Claim
import GoSem.ClaimJoined
import GoSem.ClaimMapViews
import Derived.JoinedTies
import Derived.KernelRfl
namespace Go.Proofs.YtbfinmemoemakaaGreat
/- THE CELL 'sum', in the pinned program and in every row, IS THE sha256 OF THE DUMP (.gsa) THAT YtbfinmemoemakaaGreatProg.lean LOADS. Nothing in Lean hashes anything: it is a label: what it is worth is what the hold of that sum in a sandbox is worth. -/
noncomputable def Tryz.pinned : Pinned := { name := "ytbfinmemoemakaagreat", sum := "a83db3fa2f251357241854ea26518fad28b9aac263e475b5f2f5c89076afe9a7", checked := Tryz.checked }
namespace Rows
def none {H : Type} : Left H := { results := [], args := [] }

/-- 'carillonlaw27.TreeRoots': WHATEVER THE INPUT: true; the input reads as it did. -/
def treeRootsSpec : ChangeSpec := { name := "treeRoots", fn := fun _ => fun
  | [d] => { results := [.lit (.bool true)], args := [d] }
  | _ => none }
def treeRootsRow : OpenClaim := { program := "ytbfinmemoemakaagreat", sum := "a83db3fa2f251357241854ea26518fad28b9aac263e475b5f2f5c89076afe9a7", func := "carillon/carillonlaw27.TreeRoots", spec := "treeRoots", inPlace := ["math.archTrunc", "math.Float64bits", "math.Float64frombits"], unfollowed := true, recurses := true, plainKeys := false, apart := false }
def TreeRootsSaid : Prop := treeRootsRow.holds Tryz.pinned (OpenSpec.ofChange treeRootsSpec)

/-- ITS FALSE NEIGHBOUR: 'it returns false'. Refute it at one input. -/
def treeRootsWrong : ChangeSpec := { name := "treeRoots", fn := fun _ => fun
  | [d] => { results := [.lit (.bool false)], args := [d] }
  | _ => none }
def TreeRootsWrongFalsely : Prop := treeRootsRow.holds Tryz.pinned (OpenSpec.ofChange treeRootsWrong)

/-- 'carillonlaw27.TreeLine': WHATEVER THE INPUT: true; the input reads as it did. -/
def treeLineSpec : ChangeSpec := { name := "treeLine", fn := fun _ => fun
  | [d1, d2] => { results := [.lit (.bool true)], args := [d1, d2] }
  | _ => none }
def treeLineRow : OpenClaim := { program := "ytbfinmemoemakaagreat", sum := "a83db3fa2f251357241854ea26518fad28b9aac263e475b5f2f5c89076afe9a7", func := "carillon/carillonlaw27.TreeLine", spec := "treeLine", inPlace := ["math.archTrunc", "math.Float64bits", "math.Float64frombits"], unfollowed := true, recurses := true, plainKeys := false, apart := false }
def TreeLineSaid : Prop := treeLineRow.holds Tryz.pinned (OpenSpec.ofChange treeLineSpec)

/-- ITS FALSE NEIGHBOUR: 'it returns false'. Refute it at one input. -/
def treeLineWrong : ChangeSpec := { name := "treeLine", fn := fun _ => fun
  | [d1, d2] => { results := [.lit (.bool false)], args := [d1, d2] }
  | _ => none }
def TreeLineWrongFalsely : Prop := treeLineRow.holds Tryz.pinned (OpenSpec.ofChange treeLineWrong)

/-- 'carillonlaw27.TreeRing': WHATEVER THE INPUT: true; the input reads as it did. -/
def treeRingSpec : ChangeSpec := { name := "treeRing", fn := fun _ => fun
  | [d1, d2] => { results := [.lit (.bool true)], args := [d1, d2] }
  | _ => none }
def treeRingRow : OpenClaim := { program := "ytbfinmemoemakaagreat", sum := "a83db3fa2f251357241854ea26518fad28b9aac263e475b5f2f5c89076afe9a7", func := "carillon/carillonlaw27.TreeRing", spec := "treeRing", inPlace := ["math.archTrunc", "math.Float64bits", "math.Float64frombits"], unfollowed := true, recurses := true, plainKeys := false, apart := false }
def TreeRingSaid : Prop := treeRingRow.holds Tryz.pinned (OpenSpec.ofChange treeRingSpec)

/-- ITS FALSE NEIGHBOUR: 'it returns false'. Refute it at one input. -/
def treeRingWrong : ChangeSpec := { name := "treeRing", fn := fun _ => fun
  | [d1, d2] => { results := [.lit (.bool false)], args := [d1, d2] }
  | _ => none }
def TreeRingWrongFalsely : Prop := treeRingRow.holds Tryz.pinned (OpenSpec.ofChange treeRingWrong)

/-- 'carillonlaw27.TreeBounds': WHATEVER THE INPUT: true; the input reads as it did. -/
def treeBoundsSpec : ChangeSpec := { name := "treeBounds", fn := fun _ => fun
  | [d1, d2] => { results := [.lit (.bool true)], args := [d1, d2] }
  | _ => none }
def treeBoundsRow : OpenClaim := { program := "ytbfinmemoemakaagreat", sum := "a83db3fa2f251357241854ea26518fad28b9aac263e475b5f2f5c89076afe9a7", func := "carillon/carillonlaw27.TreeBounds", spec := "treeBounds", inPlace := ["math.archTrunc", "math.Float64bits", "math.Float64frombits"], unfollowed := true, recurses := true, plainKeys := false, apart := false }
def TreeBoundsSaid : Prop := treeBoundsRow.holds Tryz.pinned (OpenSpec.ofChange treeBoundsSpec)

/-- ITS FALSE NEIGHBOUR: 'it returns false'. Refute it at one input. -/
def treeBoundsWrong : ChangeSpec := { name := "treeBounds", fn := fun _ => fun
  | [d1, d2] => { results := [.lit (.bool false)], args := [d1, d2] }
  | _ => none }
def TreeBoundsWrongFalsely : Prop := treeBoundsRow.holds Tryz.pinned (OpenSpec.ofChange treeBoundsWrong)

/- THE SECOND FORM. 'bulk': how many values and letters a reading holds, each counted each time it is reached (what is shared counts as often as it is met; a slice's spare places count too). A statement '..UptoSaid' is the law's where the arguments, and the package variables that the reading takes, are together of bulk at most 1048576: NARROWER than '..Said'. Prove '..Said' where nothing that the law and all that it calls make is longer than what came in: it says more and counts as full. Else prove '..UptoSaid'. A law counts once. -/
mutual
def uptoBulk {H : Type} : DataW H → Nat
  | .lit (.string bytes) => bytes.length + 1
  | .lit _ => 1
  | .nil => 1
  | .ptr d => uptoBulk d + 1
  | .slice elems spare => uptoBulkAll elems + uptoBulkAll spare + 1
  | .agg parts => uptoBulkAll parts + 1
  | .iface _ d => uptoBulk d + 1
  | .map entries => uptoBulkEntries entries + 1
  | .held _ => 1
def uptoBulkAll {H : Type} : List (DataW H) → Nat
  | [] => 0
  | d :: r => uptoBulk d + uptoBulkAll r
def uptoBulkEntries {H : Type} : List (Lit × DataW H) → Nat
  | [] => 0
  | x :: r => uptoBulkEntry x + uptoBulkEntries r
def uptoBulkEntry {H : Type} : Lit × DataW H → Nat
  | (.string bytes, d) => bytes.length + uptoBulk d + 1
  | (_, d) => uptoBulk d + 1
 end
def uptoSmall : (H : Type) → List (DataW H) → Bool := fun _ ds => decide (uptoBulkAll ds ≤ 1048576)
def OpenSpec.upto (s : _root_.Go.ChangeSpec) : _root_.Go.OpenSpec := { _root_.Go.OpenSpec.ofChange s with cond := some uptoSmall }

/-- 'carillonlaw27.TreeRoots', WHERE WHAT IT READS IS OF BULK AT MOST 1048576: true; the input reads as it did. -/
def treeRootsUptoRow : OpenClaim := { program := "ytbfinmemoemakaagreat", sum := "a83db3fa2f251357241854ea26518fad28b9aac263e475b5f2f5c89076afe9a7", func := "carillon/carillonlaw27.TreeRoots", spec := "treeRoots", inPlace := ["math.archTrunc", "math.Float64bits", "math.Float64frombits"], unfollowed := true, recurses := true, plainKeys := false, apart := false, narrowed := true }
def TreeRootsUptoSaid : Prop := treeRootsUptoRow.holds Tryz.pinned (OpenSpec.upto treeRootsSpec)

/-- 'carillonlaw27.TreeLine', WHERE WHAT IT READS IS OF BULK AT MOST 1048576: true; the input reads as it did. -/
def treeLineUptoRow : OpenClaim := { program := "ytbfinmemoemakaagreat", sum := "a83db3fa2f251357241854ea26518fad28b9aac263e475b5f2f5c89076afe9a7", func := "carillon/carillonlaw27.TreeLine", spec := "treeLine", inPlace := ["math.archTrunc", "math.Float64bits", "math.Float64frombits"], unfollowed := true, recurses := true, plainKeys := false, apart := false, narrowed := true }
def TreeLineUptoSaid : Prop := treeLineUptoRow.holds Tryz.pinned (OpenSpec.upto treeLineSpec)

/-- 'carillonlaw27.TreeRing', WHERE WHAT IT READS IS OF BULK AT MOST 1048576: true; the input reads as it did. -/
def treeRingUptoRow : OpenClaim := { program := "ytbfinmemoemakaagreat", sum := "a83db3fa2f251357241854ea26518fad28b9aac263e475b5f2f5c89076afe9a7", func := "carillon/carillonlaw27.TreeRing", spec := "treeRing", inPlace := ["math.archTrunc", "math.Float64bits", "math.Float64frombits"], unfollowed := true, recurses := true, plainKeys := false, apart := false, narrowed := true }
def TreeRingUptoSaid : Prop := treeRingUptoRow.holds Tryz.pinned (OpenSpec.upto treeRingSpec)

/-- 'carillonlaw27.TreeBounds', WHERE WHAT IT READS IS OF BULK AT MOST 1048576: true; the input reads as it did. -/
def treeBoundsUptoRow : OpenClaim := { program := "ytbfinmemoemakaagreat", sum := "a83db3fa2f251357241854ea26518fad28b9aac263e475b5f2f5c89076afe9a7", func := "carillon/carillonlaw27.TreeBounds", spec := "treeBounds", inPlace := ["math.archTrunc", "math.Float64bits", "math.Float64frombits"], unfollowed := true, recurses := true, plainKeys := false, apart := false, narrowed := true }
def TreeBoundsUptoSaid : Prop := treeBoundsUptoRow.holds Tryz.pinned (OpenSpec.upto treeBoundsSpec)

end Rows
end Go.Proofs.YtbfinmemoemakaaGreat
