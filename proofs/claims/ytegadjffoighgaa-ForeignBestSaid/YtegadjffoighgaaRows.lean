/-
  No cell of these rows narrows 'for every input' (looked for: loops, veiled, ifaces, maps, wideKeys, modest, calm, conditions, laid).
  DERIVED. THE GIVEN ROWS OF THIS SEAT. 4 by the template 'for every input the law returns true; each argument reads behind the call as it read before'; 0 by the template 'total and deterministic' (their statements: YtegadjffoighgaaTotals.lean).
  GIVEN WITH THE SEED: the statements are not yours to turn. If you find one false, say at which input.
  Laid BY PROGRAM, IN A SANDBOX (cutbox-rows.mjs): the forced cells as the released guide's own fill.sh prints them over the translation e9594f83338f9faa… (all of the seat's roots in one cut). By AI agents, Wed Nov 11 2026. No macro, syntax, notation, axiom, sorry.
-/
import Derived.Test.YtegadjffoighgaaChecked
import GoSem.Claim
import GoSem.ClaimJoined
import GoSem.ClaimMapViews
import Derived.JoinedTies
import Derived.KernelRfl
namespace Go.Proofs.Ytegadjffoighgaa
/- THE CELL 'sum', in the pinned program and in every row, IS THE sha256 OF THE DUMP (.gsa) THAT YtegadjffoighgaaProg.lean LOADS. Nothing in Lean hashes anything: it is a label: what it is worth is what the hold of that sum in a sandbox is worth. -/
noncomputable def Try.pinned : Pinned := { name := "ytegadjffoighgaa", sum := "e9594f83338f9faa33d14dc4e60408415171e3f732495f13b7606d8ddd78d0e8", checked := Try.checked }
namespace Rows
def none {H : Type} : Left H := { results := [], args := [] }

/-- 'carillonlaw12.ForeignFull': WHATEVER THE INPUT: true; the input reads as it did. -/
def foreignFullSpec : ChangeSpec := { name := "foreignFull", fn := fun _ => fun
  | [d1, d2] => { results := [.lit (.bool true)], args := [d1, d2] }
  | _ => none }
def foreignFullRow : OpenClaim := { program := "ytegadjffoighgaa", sum := "e9594f83338f9faa33d14dc4e60408415171e3f732495f13b7606d8ddd78d0e8", func := "carillon/carillonlaw12.ForeignFull", spec := "foreignFull", apart := false }
def ForeignFullSaid : Prop := foreignFullRow.holds Try.pinned (OpenSpec.ofChange foreignFullSpec)

/-- ITS FALSE NEIGHBOUR: 'it returns false'. Refute it at one input. -/
def foreignFullWrong : ChangeSpec := { name := "foreignFull", fn := fun _ => fun
  | [d1, d2] => { results := [.lit (.bool false)], args := [d1, d2] }
  | _ => none }
def ForeignFullWrongFalsely : Prop := foreignFullRow.holds Try.pinned (OpenSpec.ofChange foreignFullWrong)

/-- 'carillonlaw12.ForeignOld': WHATEVER THE INPUT: true; the input reads as it did. -/
def foreignOldSpec : ChangeSpec := { name := "foreignOld", fn := fun _ => fun
  | [d1, d2, d3] => { results := [.lit (.bool true)], args := [d1, d2, d3] }
  | _ => none }
def foreignOldRow : OpenClaim := { program := "ytegadjffoighgaa", sum := "e9594f83338f9faa33d14dc4e60408415171e3f732495f13b7606d8ddd78d0e8", func := "carillon/carillonlaw12.ForeignOld", spec := "foreignOld", apart := false }
def ForeignOldSaid : Prop := foreignOldRow.holds Try.pinned (OpenSpec.ofChange foreignOldSpec)

/-- ITS FALSE NEIGHBOUR: 'it returns false'. Refute it at one input. -/
def foreignOldWrong : ChangeSpec := { name := "foreignOld", fn := fun _ => fun
  | [d1, d2, d3] => { results := [.lit (.bool false)], args := [d1, d2, d3] }
  | _ => none }
def ForeignOldWrongFalsely : Prop := foreignOldRow.holds Try.pinned (OpenSpec.ofChange foreignOldWrong)

/-- 'carillonlaw12.ForeignBest': WHATEVER THE INPUT: true; the input reads as it did. -/
def foreignBestSpec : ChangeSpec := { name := "foreignBest", fn := fun _ => fun
  | [d] => { results := [.lit (.bool true)], args := [d] }
  | _ => none }
def foreignBestRow : OpenClaim := { program := "ytegadjffoighgaa", sum := "e9594f83338f9faa33d14dc4e60408415171e3f732495f13b7606d8ddd78d0e8", func := "carillon/carillonlaw12.ForeignBest", spec := "foreignBest", apart := false }
def ForeignBestSaid : Prop := foreignBestRow.holds Try.pinned (OpenSpec.ofChange foreignBestSpec)

/-- ITS FALSE NEIGHBOUR: 'it returns false'. Refute it at one input. -/
def foreignBestWrong : ChangeSpec := { name := "foreignBest", fn := fun _ => fun
  | [d] => { results := [.lit (.bool false)], args := [d] }
  | _ => none }
def ForeignBestWrongFalsely : Prop := foreignBestRow.holds Try.pinned (OpenSpec.ofChange foreignBestWrong)

/-- 'carillonlaw12.ForeignTwice': WHATEVER THE INPUT: true; the input reads as it did. -/
def foreignTwiceSpec : ChangeSpec := { name := "foreignTwice", fn := fun _ => fun
  | [d1, d2, d3, d4] => { results := [.lit (.bool true)], args := [d1, d2, d3, d4] }
  | _ => none }
def foreignTwiceRow : OpenClaim := { program := "ytegadjffoighgaa", sum := "e9594f83338f9faa33d14dc4e60408415171e3f732495f13b7606d8ddd78d0e8", func := "carillon/carillonlaw12.ForeignTwice", spec := "foreignTwice", apart := false }
def ForeignTwiceSaid : Prop := foreignTwiceRow.holds Try.pinned (OpenSpec.ofChange foreignTwiceSpec)

/-- ITS FALSE NEIGHBOUR: 'it returns false'. Refute it at one input. -/
def foreignTwiceWrong : ChangeSpec := { name := "foreignTwice", fn := fun _ => fun
  | [d1, d2, d3, d4] => { results := [.lit (.bool false)], args := [d1, d2, d3, d4] }
  | _ => none }
def ForeignTwiceWrongFalsely : Prop := foreignTwiceRow.holds Try.pinned (OpenSpec.ofChange foreignTwiceWrong)

/- THE SECOND FORM. 'bulk': how many values and letters a reading holds, each counted each time it is reached (what is shared counts as often as it is met; a slice's spare places count too). A statement '..UptoSaid' is the law's where the arguments, and the package variables that the reading takes, are together of bulk at most 1048576: NARROWER than '..Said'. Prove '..Said' where nothing that the law and all that it calls make is longer than what came in: it says more and counts as full. Else prove '..UptoSaid'. A law counts once. -/
mutual
def uptoBulk {H : Type} : DataW H → Nat
  | .lit (.string bytes) => bytes.length + 1
  | .lit _ => 1
  | .nil => 1
  | .ptr d => uptoBulk d + 1
  | .slice elems spare => uptoBulkAll elems + uptoBulkAll spare + 1
  | .agg parts => uptoBulkAll parts + 1
  | .iface _ d => uptoBulk d + 1
  | .map entries => uptoBulkEntries entries + 1
  | .held _ => 1
def uptoBulkAll {H : Type} : List (DataW H) → Nat
  | [] => 0
  | d :: r => uptoBulk d + uptoBulkAll r
def uptoBulkEntries {H : Type} : List (Lit × DataW H) → Nat
  | [] => 0
  | x :: r => uptoBulkEntry x + uptoBulkEntries r
def uptoBulkEntry {H : Type} : Lit × DataW H → Nat
  | (.string bytes, d) => bytes.length + uptoBulk d + 1
  | (_, d) => uptoBulk d + 1
 end
def uptoSmall : (H : Type) → List (DataW H) → Bool := fun _ ds => decide (uptoBulkAll ds ≤ 1048576)
def OpenSpec.upto (s : _root_.Go.ChangeSpec) : _root_.Go.OpenSpec := { _root_.Go.OpenSpec.ofChange s with cond := some uptoSmall }

/-- 'carillonlaw12.ForeignFull', WHERE WHAT IT READS IS OF BULK AT MOST 1048576: true; the input reads as it did. -/
def foreignFullUptoRow : OpenClaim := { program := "ytegadjffoighgaa", sum := "e9594f83338f9faa33d14dc4e60408415171e3f732495f13b7606d8ddd78d0e8", func := "carillon/carillonlaw12.ForeignFull", spec := "foreignFull", apart := false, narrowed := true }
def ForeignFullUptoSaid : Prop := foreignFullUptoRow.holds Try.pinned (OpenSpec.upto foreignFullSpec)

/-- 'carillonlaw12.ForeignOld', WHERE WHAT IT READS IS OF BULK AT MOST 1048576: true; the input reads as it did. -/
def foreignOldUptoRow : OpenClaim := { program := "ytegadjffoighgaa", sum := "e9594f83338f9faa33d14dc4e60408415171e3f732495f13b7606d8ddd78d0e8", func := "carillon/carillonlaw12.ForeignOld", spec := "foreignOld", apart := false, narrowed := true }
def ForeignOldUptoSaid : Prop := foreignOldUptoRow.holds Try.pinned (OpenSpec.upto foreignOldSpec)

/-- 'carillonlaw12.ForeignBest', WHERE WHAT IT READS IS OF BULK AT MOST 1048576: true; the input reads as it did. -/
def foreignBestUptoRow : OpenClaim := { program := "ytegadjffoighgaa", sum := "e9594f83338f9faa33d14dc4e60408415171e3f732495f13b7606d8ddd78d0e8", func := "carillon/carillonlaw12.ForeignBest", spec := "foreignBest", apart := false, narrowed := true }
def ForeignBestUptoSaid : Prop := foreignBestUptoRow.holds Try.pinned (OpenSpec.upto foreignBestSpec)

/-- 'carillonlaw12.ForeignTwice', WHERE WHAT IT READS IS OF BULK AT MOST 1048576: true; the input reads as it did. -/
def foreignTwiceUptoRow : OpenClaim := { program := "ytegadjffoighgaa", sum := "e9594f83338f9faa33d14dc4e60408415171e3f732495f13b7606d8ddd78d0e8", func := "carillon/carillonlaw12.ForeignTwice", spec := "foreignTwice", apart := false, narrowed := true }
def ForeignTwiceUptoSaid : Prop := foreignTwiceUptoRow.holds Try.pinned (OpenSpec.upto foreignTwiceSpec)

end Rows
end Go.Proofs.Ytegadjffoighgaa
