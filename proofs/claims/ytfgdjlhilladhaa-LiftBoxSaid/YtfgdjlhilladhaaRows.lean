/-
  No cell of these rows narrows 'for every input' (looked for: loops, veiled, ifaces, maps, wideKeys, modest, calm, conditions, laid).
  DERIVED. THE GIVEN ROWS OF THIS SEAT. 2 by the template 'for every input the law returns true; each argument reads behind the call as it read before'; 0 by the template 'total and deterministic' (their statements: YtfgdjlhilladhaaTotals.lean).
  GIVEN WITH THE SEED: the statements are not yours to turn. If you find one false, say at which input.
  Laid BY PROGRAM, IN A SANDBOX (cutbox-rows.mjs): the forced cells as the released guide's own fill.sh prints them over the translation a583f6e8bda6dcae… (all of the seat's roots in one cut). By AI agents, Wed Nov 11 2026. No macro, syntax, notation, axiom, sorry.
-/
import Derived.Test.YtfgdjlhilladhaaChecked
import GoSem.Claim
import GoSem.ClaimJoined
import GoSem.ClaimMapViews
import Derived.JoinedTies
import Derived.KernelRfl
namespace Go.Proofs.Ytfgdjlhilladhaa
/- THE CELL 'sum', in the pinned program and in every row, IS THE sha256 OF THE DUMP (.gsa) THAT YtfgdjlhilladhaaProg.lean LOADS. Nothing in Lean hashes anything: it is a label: what it is worth is what the hold of that sum in a sandbox is worth. -/
noncomputable def Try.pinned : Pinned := { name := "ytfgdjlhilladhaa", sum := "a583f6e8bda6dcae3b027133344b1e1cbd38d7d2021eb0cbc984fb4afff5d6ca", checked := Try.checked }
namespace Rows
def none {H : Type} : Left H := { results := [], args := [] }

/-- 'limewashlaw20.LiftBox': WHATEVER THE INPUT: true; the input reads as it did. -/
def liftBoxSpec : ChangeSpec := { name := "liftBox", fn := fun _ => fun
  | [d1, d2, d3, d4] => { results := [.lit (.bool true)], args := [d1, d2, d3, d4] }
  | _ => none }
def liftBoxRow : OpenClaim := { program := "ytfgdjlhilladhaa", sum := "a583f6e8bda6dcae3b027133344b1e1cbd38d7d2021eb0cbc984fb4afff5d6ca", func := "limewash/limewashlaw20.LiftBox", spec := "liftBox", unfollowed := true, recurses := true, apart := false }
def LiftBoxSaid : Prop := liftBoxRow.holds Try.pinned (OpenSpec.ofChange liftBoxSpec)

/-- ITS FALSE NEIGHBOUR: 'it returns false'. Refute it at one input. -/
def liftBoxWrong : ChangeSpec := { name := "liftBox", fn := fun _ => fun
  | [d1, d2, d3, d4] => { results := [.lit (.bool false)], args := [d1, d2, d3, d4] }
  | _ => none }
def LiftBoxWrongFalsely : Prop := liftBoxRow.holds Try.pinned (OpenSpec.ofChange liftBoxWrong)

/-- 'limewashlaw20.LiftTurned': WHATEVER THE INPUT: true; the input reads as it did. -/
def liftTurnedSpec : ChangeSpec := { name := "liftTurned", fn := fun _ => fun
  | [d1, d2, d3, d4] => { results := [.lit (.bool true)], args := [d1, d2, d3, d4] }
  | _ => none }
def liftTurnedRow : OpenClaim := { program := "ytfgdjlhilladhaa", sum := "a583f6e8bda6dcae3b027133344b1e1cbd38d7d2021eb0cbc984fb4afff5d6ca", func := "limewash/limewashlaw20.LiftTurned", spec := "liftTurned", unfollowed := true, recurses := true, apart := false }
def LiftTurnedSaid : Prop := liftTurnedRow.holds Try.pinned (OpenSpec.ofChange liftTurnedSpec)

/-- ITS FALSE NEIGHBOUR: 'it returns false'. Refute it at one input. -/
def liftTurnedWrong : ChangeSpec := { name := "liftTurned", fn := fun _ => fun
  | [d1, d2, d3, d4] => { results := [.lit (.bool false)], args := [d1, d2, d3, d4] }
  | _ => none }
def LiftTurnedWrongFalsely : Prop := liftTurnedRow.holds Try.pinned (OpenSpec.ofChange liftTurnedWrong)

/- THE SECOND FORM. 'bulk': how many values and letters a reading holds, each counted each time it is reached (what is shared counts as often as it is met; a slice's spare places count too). A statement '..UptoSaid' is the law's where the arguments, and the package variables that the reading takes, are together of bulk at most 1048576: NARROWER than '..Said'. Prove '..Said' where nothing that the law and all that it calls make is longer than what came in: it says more and counts as full. Else prove '..UptoSaid'. A law counts once. -/
mutual
def uptoBulk {H : Type} : DataW H → Nat
  | .lit (.string bytes) => bytes.length + 1
  | .lit _ => 1
  | .nil => 1
  | .ptr d => uptoBulk d + 1
  | .slice elems spare => uptoBulkAll elems + uptoBulkAll spare + 1
  | .agg parts => uptoBulkAll parts + 1
  | .iface _ d => uptoBulk d + 1
  | .map entries => uptoBulkEntries entries + 1
  | .held _ => 1
def uptoBulkAll {H : Type} : List (DataW H) → Nat
  | [] => 0
  | d :: r => uptoBulk d + uptoBulkAll r
def uptoBulkEntries {H : Type} : List (Lit × DataW H) → Nat
  | [] => 0
  | x :: r => uptoBulkEntry x + uptoBulkEntries r
def uptoBulkEntry {H : Type} : Lit × DataW H → Nat
  | (.string bytes, d) => bytes.length + uptoBulk d + 1
  | (_, d) => uptoBulk d + 1
 end
def uptoSmall : (H : Type) → List (DataW H) → Bool := fun _ ds => decide (uptoBulkAll ds ≤ 1048576)
def OpenSpec.upto (s : _root_.Go.ChangeSpec) : _root_.Go.OpenSpec := { _root_.Go.OpenSpec.ofChange s with cond := some uptoSmall }

/-- 'limewashlaw20.LiftBox', WHERE WHAT IT READS IS OF BULK AT MOST 1048576: true; the input reads as it did. -/
def liftBoxUptoRow : OpenClaim := { program := "ytfgdjlhilladhaa", sum := "a583f6e8bda6dcae3b027133344b1e1cbd38d7d2021eb0cbc984fb4afff5d6ca", func := "limewash/limewashlaw20.LiftBox", spec := "liftBox", unfollowed := true, recurses := true, apart := false, narrowed := true }
def LiftBoxUptoSaid : Prop := liftBoxUptoRow.holds Try.pinned (OpenSpec.upto liftBoxSpec)

/-- 'limewashlaw20.LiftTurned', WHERE WHAT IT READS IS OF BULK AT MOST 1048576: true; the input reads as it did. -/
def liftTurnedUptoRow : OpenClaim := { program := "ytfgdjlhilladhaa", sum := "a583f6e8bda6dcae3b027133344b1e1cbd38d7d2021eb0cbc984fb4afff5d6ca", func := "limewash/limewashlaw20.LiftTurned", spec := "liftTurned", unfollowed := true, recurses := true, apart := false, narrowed := true }
def LiftTurnedUptoSaid : Prop := liftTurnedUptoRow.holds Try.pinned (OpenSpec.upto liftTurnedSpec)

end Rows
end Go.Proofs.Ytfgdjlhilladhaa
