/-
  No cell of these rows narrows 'for every input' (looked for: loops, veiled, ifaces, maps, wideKeys, modest, calm, conditions, laid).
  DERIVED. THE GIVEN ROWS OF THIS SEAT. 5 by the template 'for every input the law returns true; each argument reads behind the call as it read before'; 0 by the template 'total and deterministic' (their statements: YtkjjdjgpmlbloaaTotals.lean).
  GIVEN WITH THE SEED: the statements are not yours to turn. If you find one false, say at which input.
  Laid BY PROGRAM, IN A SANDBOX (cutbox-rows.mjs): the forced cells as the released guide's own fill.sh prints them over the translation 108ccb38b2bf1567… (all of the seat's roots in one cut). By AI agents, Wed Nov 11 2026. No macro, syntax, notation, axiom, sorry.
-/
import Derived.Test.YtkjjdjgpmlbloaaChecked
import GoSem.Claim
import GoSem.ClaimJoined
import GoSem.ClaimMapViews
import Derived.JoinedTies
import Derived.KernelRfl
namespace Go.Proofs.Ytkjjdjgpmlbloaa
/- THE CELL 'sum', in the pinned program and in every row, IS THE sha256 OF THE DUMP (.gsa) THAT YtkjjdjgpmlbloaaProg.lean LOADS. Nothing in Lean hashes anything: it is a label: what it is worth is what the hold of that sum in a sandbox is worth. -/
noncomputable def Try.pinned : Pinned := { name := "ytkjjdjgpmlbloaa", sum := "108ccb38b2bf15675c08e09f99e8dc0c43f1a7fc58b3d4b9c8b8b9b0898af0b0", checked := Try.checked }
namespace Rows
def none {H : Type} : Left H := { results := [], args := [] }

/-- 'carillonlaw13.DecideSlave': WHATEVER THE INPUT: true; the input reads as it did. -/
def decideSlaveSpec : ChangeSpec := { name := "decideSlave", fn := fun _ => fun
  | [d1, d2, d3, d4] => { results := [.lit (.bool true)], args := [d1, d2, d3, d4] }
  | _ => none }
def decideSlaveRow : OpenClaim := { program := "ytkjjdjgpmlbloaa", sum := "108ccb38b2bf15675c08e09f99e8dc0c43f1a7fc58b3d4b9c8b8b9b0898af0b0", func := "carillon/carillonlaw13.DecideSlave", spec := "decideSlave", apart := false }
def DecideSlaveSaid : Prop := decideSlaveRow.holds Try.pinned (OpenSpec.ofChange decideSlaveSpec)

/-- ITS FALSE NEIGHBOUR: 'it returns false'. Refute it at one input. -/
def decideSlaveWrong : ChangeSpec := { name := "decideSlave", fn := fun _ => fun
  | [d1, d2, d3, d4] => { results := [.lit (.bool false)], args := [d1, d2, d3, d4] }
  | _ => none }
def DecideSlaveWrongFalsely : Prop := decideSlaveRow.holds Try.pinned (OpenSpec.ofChange decideSlaveWrong)

/-- 'carillonlaw13.DecideAlone': WHATEVER THE INPUT: true; the input reads as it did. -/
def decideAloneSpec : ChangeSpec := { name := "decideAlone", fn := fun _ => fun
  | [d1, d2, d3] => { results := [.lit (.bool true)], args := [d1, d2, d3] }
  | _ => none }
def decideAloneRow : OpenClaim := { program := "ytkjjdjgpmlbloaa", sum := "108ccb38b2bf15675c08e09f99e8dc0c43f1a7fc58b3d4b9c8b8b9b0898af0b0", func := "carillon/carillonlaw13.DecideAlone", spec := "decideAlone", apart := false }
def DecideAloneSaid : Prop := decideAloneRow.holds Try.pinned (OpenSpec.ofChange decideAloneSpec)

/-- ITS FALSE NEIGHBOUR: 'it returns false'. Refute it at one input. -/
def decideAloneWrong : ChangeSpec := { name := "decideAlone", fn := fun _ => fun
  | [d1, d2, d3] => { results := [.lit (.bool false)], args := [d1, d2, d3] }
  | _ => none }
def DecideAloneWrongFalsely : Prop := decideAloneRow.holds Try.pinned (OpenSpec.ofChange decideAloneWrong)

/-- 'carillonlaw13.DecideBetter': WHATEVER THE INPUT: true; the input reads as it did. -/
def decideBetterSpec : ChangeSpec := { name := "decideBetter", fn := fun _ => fun
  | [d1, d2] => { results := [.lit (.bool true)], args := [d1, d2] }
  | _ => none }
def decideBetterRow : OpenClaim := { program := "ytkjjdjgpmlbloaa", sum := "108ccb38b2bf15675c08e09f99e8dc0c43f1a7fc58b3d4b9c8b8b9b0898af0b0", func := "carillon/carillonlaw13.DecideBetter", spec := "decideBetter", apart := false }
def DecideBetterSaid : Prop := decideBetterRow.holds Try.pinned (OpenSpec.ofChange decideBetterSpec)

/-- ITS FALSE NEIGHBOUR: 'it returns false'. Refute it at one input. -/
def decideBetterWrong : ChangeSpec := { name := "decideBetter", fn := fun _ => fun
  | [d1, d2] => { results := [.lit (.bool false)], args := [d1, d2] }
  | _ => none }
def DecideBetterWrongFalsely : Prop := decideBetterRow.holds Try.pinned (OpenSpec.ofChange decideBetterWrong)

/-- 'carillonlaw13.DecideTexts': WHATEVER THE INPUT: true; the input reads as it did. -/
def decideTextsSpec : ChangeSpec := { name := "decideTexts", fn := fun _ => fun
  | [d] => { results := [.lit (.bool true)], args := [d] }
  | _ => none }
def decideTextsRow : OpenClaim := { program := "ytkjjdjgpmlbloaa", sum := "108ccb38b2bf15675c08e09f99e8dc0c43f1a7fc58b3d4b9c8b8b9b0898af0b0", func := "carillon/carillonlaw13.DecideTexts", spec := "decideTexts", apart := false }
def DecideTextsSaid : Prop := decideTextsRow.holds Try.pinned (OpenSpec.ofChange decideTextsSpec)

/-- ITS FALSE NEIGHBOUR: 'it returns false'. Refute it at one input. -/
def decideTextsWrong : ChangeSpec := { name := "decideTexts", fn := fun _ => fun
  | [d] => { results := [.lit (.bool false)], args := [d] }
  | _ => none }
def DecideTextsWrongFalsely : Prop := decideTextsRow.holds Try.pinned (OpenSpec.ofChange decideTextsWrong)

/-- 'carillonlaw13.DecideClass': WHATEVER THE INPUT: true; the input reads as it did. -/
def decideClassSpec : ChangeSpec := { name := "decideClass", fn := fun _ => fun
  | [d1, d2, d3, d4] => { results := [.lit (.bool true)], args := [d1, d2, d3, d4] }
  | _ => none }
def decideClassRow : OpenClaim := { program := "ytkjjdjgpmlbloaa", sum := "108ccb38b2bf15675c08e09f99e8dc0c43f1a7fc58b3d4b9c8b8b9b0898af0b0", func := "carillon/carillonlaw13.DecideClass", spec := "decideClass", apart := false }
def DecideClassSaid : Prop := decideClassRow.holds Try.pinned (OpenSpec.ofChange decideClassSpec)

/-- ITS FALSE NEIGHBOUR: 'it returns false'. Refute it at one input. -/
def decideClassWrong : ChangeSpec := { name := "decideClass", fn := fun _ => fun
  | [d1, d2, d3, d4] => { results := [.lit (.bool false)], args := [d1, d2, d3, d4] }
  | _ => none }
def DecideClassWrongFalsely : Prop := decideClassRow.holds Try.pinned (OpenSpec.ofChange decideClassWrong)

/- THE SECOND FORM. 'bulk': how many values and letters a reading holds, each counted each time it is reached (what is shared counts as often as it is met; a slice's spare places count too). A statement '..UptoSaid' is the law's where the arguments, and the package variables that the reading takes, are together of bulk at most 1048576: NARROWER than '..Said'. Prove '..Said' where nothing that the law and all that it calls make is longer than what came in: it says more and counts as full. Else prove '..UptoSaid'. A law counts once. -/
mutual
def uptoBulk {H : Type} : DataW H → Nat
  | .lit (.string bytes) => bytes.length + 1
  | .lit _ => 1
  | .nil => 1
  | .ptr d => uptoBulk d + 1
  | .slice elems spare => uptoBulkAll elems + uptoBulkAll spare + 1
  | .agg parts => uptoBulkAll parts + 1
  | .iface _ d => uptoBulk d + 1
  | .map entries => uptoBulkEntries entries + 1
  | .held _ => 1
def uptoBulkAll {H : Type} : List (DataW H) → Nat
  | [] => 0
  | d :: r => uptoBulk d + uptoBulkAll r
def uptoBulkEntries {H : Type} : List (Lit × DataW H) → Nat
  | [] => 0
  | x :: r => uptoBulkEntry x + uptoBulkEntries r
def uptoBulkEntry {H : Type} : Lit × DataW H → Nat
  | (.string bytes, d) => bytes.length + uptoBulk d + 1
  | (_, d) => uptoBulk d + 1
 end
def uptoSmall : (H : Type) → List (DataW H) → Bool := fun _ ds => decide (uptoBulkAll ds ≤ 1048576)
def OpenSpec.upto (s : _root_.Go.ChangeSpec) : _root_.Go.OpenSpec := { _root_.Go.OpenSpec.ofChange s with cond := some uptoSmall }

/-- 'carillonlaw13.DecideSlave', WHERE WHAT IT READS IS OF BULK AT MOST 1048576: true; the input reads as it did. -/
def decideSlaveUptoRow : OpenClaim := { program := "ytkjjdjgpmlbloaa", sum := "108ccb38b2bf15675c08e09f99e8dc0c43f1a7fc58b3d4b9c8b8b9b0898af0b0", func := "carillon/carillonlaw13.DecideSlave", spec := "decideSlave", apart := false, narrowed := true }
def DecideSlaveUptoSaid : Prop := decideSlaveUptoRow.holds Try.pinned (OpenSpec.upto decideSlaveSpec)

/-- 'carillonlaw13.DecideAlone', WHERE WHAT IT READS IS OF BULK AT MOST 1048576: true; the input reads as it did. -/
def decideAloneUptoRow : OpenClaim := { program := "ytkjjdjgpmlbloaa", sum := "108ccb38b2bf15675c08e09f99e8dc0c43f1a7fc58b3d4b9c8b8b9b0898af0b0", func := "carillon/carillonlaw13.DecideAlone", spec := "decideAlone", apart := false, narrowed := true }
def DecideAloneUptoSaid : Prop := decideAloneUptoRow.holds Try.pinned (OpenSpec.upto decideAloneSpec)

/-- 'carillonlaw13.DecideBetter', WHERE WHAT IT READS IS OF BULK AT MOST 1048576: true; the input reads as it did. -/
def decideBetterUptoRow : OpenClaim := { program := "ytkjjdjgpmlbloaa", sum := "108ccb38b2bf15675c08e09f99e8dc0c43f1a7fc58b3d4b9c8b8b9b0898af0b0", func := "carillon/carillonlaw13.DecideBetter", spec := "decideBetter", apart := false, narrowed := true }
def DecideBetterUptoSaid : Prop := decideBetterUptoRow.holds Try.pinned (OpenSpec.upto decideBetterSpec)

/-- 'carillonlaw13.DecideTexts', WHERE WHAT IT READS IS OF BULK AT MOST 1048576: true; the input reads as it did. -/
def decideTextsUptoRow : OpenClaim := { program := "ytkjjdjgpmlbloaa", sum := "108ccb38b2bf15675c08e09f99e8dc0c43f1a7fc58b3d4b9c8b8b9b0898af0b0", func := "carillon/carillonlaw13.DecideTexts", spec := "decideTexts", apart := false, narrowed := true }
def DecideTextsUptoSaid : Prop := decideTextsUptoRow.holds Try.pinned (OpenSpec.upto decideTextsSpec)

/-- 'carillonlaw13.DecideClass', WHERE WHAT IT READS IS OF BULK AT MOST 1048576: true; the input reads as it did. -/
def decideClassUptoRow : OpenClaim := { program := "ytkjjdjgpmlbloaa", sum := "108ccb38b2bf15675c08e09f99e8dc0c43f1a7fc58b3d4b9c8b8b9b0898af0b0", func := "carillon/carillonlaw13.DecideClass", spec := "decideClass", apart := false, narrowed := true }
def DecideClassUptoSaid : Prop := decideClassUptoRow.holds Try.pinned (OpenSpec.upto decideClassSpec)

end Rows
end Go.Proofs.Ytkjjdjgpmlbloaa
