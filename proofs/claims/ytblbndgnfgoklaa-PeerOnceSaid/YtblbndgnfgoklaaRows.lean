/-
  No cell of these rows narrows 'for every input' (looked for: loops, veiled, ifaces, maps, wideKeys, modest, calm, conditions, laid).
  DERIVED. THE GIVEN ROWS OF THIS SEAT. 2 by the template 'for every input the law returns true; each argument reads behind the call as it read before'; 0 by the template 'total and deterministic' (their statements: YtblbndgnfgoklaaTotals.lean).
  GIVEN WITH THE SEED: the statements are not yours to turn. If you find one false, say at which input.
  Laid BY PROGRAM, IN A SANDBOX (cutbox-rows.mjs): the forced cells as the released guide's own fill.sh prints them over the translation cec8f528d4f89dcb… (all of the seat's roots in one cut). By AI agents, Wed Nov 11 2026. No macro, syntax, notation, axiom, sorry.
-/
import Derived.Test.YtblbndgnfgoklaaChecked
import GoSem.Claim
import GoSem.ClaimJoined
import GoSem.ClaimMapViews
import Derived.JoinedTies
import Derived.KernelRfl
namespace Go.Proofs.Ytblbndgnfgoklaa
/- THE CELL 'sum', in the pinned program and in every row, IS THE sha256 OF THE DUMP (.gsa) THAT YtblbndgnfgoklaaProg.lean LOADS. Nothing in Lean hashes anything: it is a label: what it is worth is what the hold of that sum in a sandbox is worth. -/
noncomputable def Try.pinned : Pinned := { name := "ytblbndgnfgoklaa", sum := "cec8f528d4f89dcbcb6f4a893f8727c2f78d635fc3ce6af08c0029831890e0e2", checked := Try.checked }
namespace Rows
def none {H : Type} : Left H := { results := [], args := [] }

/-- 'carillonlaw18.PeerRound': WHATEVER THE INPUT: true; the input reads as it did. -/
def peerRoundSpec : ChangeSpec := { name := "peerRound", fn := fun _ => fun
  | [d1, d2, d3, d4, d5, d6, d7] => { results := [.lit (.bool true)], args := [d1, d2, d3, d4, d5, d6, d7] }
  | _ => none }
def peerRoundRow : OpenClaim := { program := "ytblbndgnfgoklaa", sum := "cec8f528d4f89dcbcb6f4a893f8727c2f78d635fc3ce6af08c0029831890e0e2", func := "carillon/carillonlaw18.PeerRound", spec := "peerRound", apart := false }
def PeerRoundSaid : Prop := peerRoundRow.holds Try.pinned (OpenSpec.ofChange peerRoundSpec)

/-- ITS FALSE NEIGHBOUR: 'it returns false'. Refute it at one input. -/
def peerRoundWrong : ChangeSpec := { name := "peerRound", fn := fun _ => fun
  | [d1, d2, d3, d4, d5, d6, d7] => { results := [.lit (.bool false)], args := [d1, d2, d3, d4, d5, d6, d7] }
  | _ => none }
def PeerRoundWrongFalsely : Prop := peerRoundRow.holds Try.pinned (OpenSpec.ofChange peerRoundWrong)

/-- 'carillonlaw18.PeerOnce': WHATEVER THE INPUT: true; the input reads as it did. -/
def peerOnceSpec : ChangeSpec := { name := "peerOnce", fn := fun _ => fun
  | [d1, d2, d3, d4] => { results := [.lit (.bool true)], args := [d1, d2, d3, d4] }
  | _ => none }
def peerOnceRow : OpenClaim := { program := "ytblbndgnfgoklaa", sum := "cec8f528d4f89dcbcb6f4a893f8727c2f78d635fc3ce6af08c0029831890e0e2", func := "carillon/carillonlaw18.PeerOnce", spec := "peerOnce", apart := false }
def PeerOnceSaid : Prop := peerOnceRow.holds Try.pinned (OpenSpec.ofChange peerOnceSpec)

/-- ITS FALSE NEIGHBOUR: 'it returns false'. Refute it at one input. -/
def peerOnceWrong : ChangeSpec := { name := "peerOnce", fn := fun _ => fun
  | [d1, d2, d3, d4] => { results := [.lit (.bool false)], args := [d1, d2, d3, d4] }
  | _ => none }
def PeerOnceWrongFalsely : Prop := peerOnceRow.holds Try.pinned (OpenSpec.ofChange peerOnceWrong)

/- THE SECOND FORM. 'bulk': how many values and letters a reading holds, each counted each time it is reached (what is shared counts as often as it is met; a slice's spare places count too). A statement '..UptoSaid' is the law's where the arguments, and the package variables that the reading takes, are together of bulk at most 1048576: NARROWER than '..Said'. Prove '..Said' where nothing that the law and all that it calls make is longer than what came in: it says more and counts as full. Else prove '..UptoSaid'. A law counts once. -/
mutual
def uptoBulk {H : Type} : DataW H → Nat
  | .lit (.string bytes) => bytes.length + 1
  | .lit _ => 1
  | .nil => 1
  | .ptr d => uptoBulk d + 1
  | .slice elems spare => uptoBulkAll elems + uptoBulkAll spare + 1
  | .agg parts => uptoBulkAll parts + 1
  | .iface _ d => uptoBulk d + 1
  | .map entries => uptoBulkEntries entries + 1
  | .held _ => 1
def uptoBulkAll {H : Type} : List (DataW H) → Nat
  | [] => 0
  | d :: r => uptoBulk d + uptoBulkAll r
def uptoBulkEntries {H : Type} : List (Lit × DataW H) → Nat
  | [] => 0
  | x :: r => uptoBulkEntry x + uptoBulkEntries r
def uptoBulkEntry {H : Type} : Lit × DataW H → Nat
  | (.string bytes, d) => bytes.length + uptoBulk d + 1
  | (_, d) => uptoBulk d + 1
 end
def uptoSmall : (H : Type) → List (DataW H) → Bool := fun _ ds => decide (uptoBulkAll ds ≤ 1048576)
def OpenSpec.upto (s : _root_.Go.ChangeSpec) : _root_.Go.OpenSpec := { _root_.Go.OpenSpec.ofChange s with cond := some uptoSmall }

/-- 'carillonlaw18.PeerRound', WHERE WHAT IT READS IS OF BULK AT MOST 1048576: true; the input reads as it did. -/
def peerRoundUptoRow : OpenClaim := { program := "ytblbndgnfgoklaa", sum := "cec8f528d4f89dcbcb6f4a893f8727c2f78d635fc3ce6af08c0029831890e0e2", func := "carillon/carillonlaw18.PeerRound", spec := "peerRound", apart := false, narrowed := true }
def PeerRoundUptoSaid : Prop := peerRoundUptoRow.holds Try.pinned (OpenSpec.upto peerRoundSpec)

/-- 'carillonlaw18.PeerOnce', WHERE WHAT IT READS IS OF BULK AT MOST 1048576: true; the input reads as it did. -/
def peerOnceUptoRow : OpenClaim := { program := "ytblbndgnfgoklaa", sum := "cec8f528d4f89dcbcb6f4a893f8727c2f78d635fc3ce6af08c0029831890e0e2", func := "carillon/carillonlaw18.PeerOnce", spec := "peerOnce", apart := false, narrowed := true }
def PeerOnceUptoSaid : Prop := peerOnceUptoRow.holds Try.pinned (OpenSpec.upto peerOnceSpec)

end Rows
end Go.Proofs.Ytblbndgnfgoklaa
