/-
  No cell of these rows narrows 'for every input' (looked for: loops, veiled, ifaces, maps, wideKeys, modest, calm, conditions, laid).
  DERIVED. THE GIVEN ROWS OF THIS SEAT. 5 by the template 'for every input the law returns true; each argument reads behind the call as it read before'; 0 by the template 'total and deterministic' (their statements: YtpdhabfebpjihaaTotals.lean).
  GIVEN WITH THE SEED: the statements are not yours to turn. If you find one false, say at which input.
  Laid BY PROGRAM, IN A SANDBOX (cutbox-rows.mjs): the forced cells as the released guide's own fill.sh prints them over the translation 8054f3f97d534d32… (all of the seat's roots in one cut). By AI agents, Wed Nov 11 2026. No macro, syntax, notation, axiom, sorry.
-/
import Derived.Test.YtpdhabfebpjihaaChecked
import GoSem.Claim
import GoSem.ClaimJoined
import GoSem.ClaimMapViews
import Derived.JoinedTies
import Derived.KernelRfl
namespace Go.Proofs.Ytpdhabfebpjihaa
/- THE CELL 'sum', in the pinned program and in every row, IS THE sha256 OF THE DUMP (.gsa) THAT YtpdhabfebpjihaaProg.lean LOADS. Nothing in Lean hashes anything: it is a label: what it is worth is what the hold of that sum in a sandbox is worth. -/
noncomputable def Try.pinned : Pinned := { name := "ytpdhabfebpjihaa", sum := "8054f3f97d534d3297f22d2029bd6d57081bf42f9b3fed903ba8f0668fefbab7", checked := Try.checked }
namespace Rows
def none {H : Type} : Left H := { results := [], args := [] }

/-- 'limewashlaw11.NearLeast': WHATEVER THE INPUT: true; the input reads as it did. -/
def nearLeastSpec : ChangeSpec := { name := "nearLeast", fn := fun _ => fun
  | [d1, d2, d3] => { results := [.lit (.bool true)], args := [d1, d2, d3] }
  | _ => none }
def nearLeastRow : OpenClaim := { program := "ytpdhabfebpjihaa", sum := "8054f3f97d534d3297f22d2029bd6d57081bf42f9b3fed903ba8f0668fefbab7", func := "limewash/limewashlaw11.NearLeast", spec := "nearLeast", unfollowed := true, recurses := true, apart := false }
def NearLeastSaid : Prop := nearLeastRow.holds Try.pinned (OpenSpec.ofChange nearLeastSpec)

/-- ITS FALSE NEIGHBOUR: 'it returns false'. Refute it at one input. -/
def nearLeastWrong : ChangeSpec := { name := "nearLeast", fn := fun _ => fun
  | [d1, d2, d3] => { results := [.lit (.bool false)], args := [d1, d2, d3] }
  | _ => none }
def NearLeastWrongFalsely : Prop := nearLeastRow.holds Try.pinned (OpenSpec.ofChange nearLeastWrong)

/-- 'limewashlaw11.NearEdge': WHATEVER THE INPUT: true; the input reads as it did. -/
def nearEdgeSpec : ChangeSpec := { name := "nearEdge", fn := fun _ => fun
  | [d1, d2, d3] => { results := [.lit (.bool true)], args := [d1, d2, d3] }
  | _ => none }
def nearEdgeRow : OpenClaim := { program := "ytpdhabfebpjihaa", sum := "8054f3f97d534d3297f22d2029bd6d57081bf42f9b3fed903ba8f0668fefbab7", func := "limewash/limewashlaw11.NearEdge", spec := "nearEdge", unfollowed := true, recurses := true, apart := false }
def NearEdgeSaid : Prop := nearEdgeRow.holds Try.pinned (OpenSpec.ofChange nearEdgeSpec)

/-- ITS FALSE NEIGHBOUR: 'it returns false'. Refute it at one input. -/
def nearEdgeWrong : ChangeSpec := { name := "nearEdge", fn := fun _ => fun
  | [d1, d2, d3] => { results := [.lit (.bool false)], args := [d1, d2, d3] }
  | _ => none }
def NearEdgeWrongFalsely : Prop := nearEdgeRow.holds Try.pinned (OpenSpec.ofChange nearEdgeWrong)

/-- 'limewashlaw11.NearWeights': WHATEVER THE INPUT: true; the input reads as it did. -/
def nearWeightsSpec : ChangeSpec := { name := "nearWeights", fn := fun _ => fun
  | [d1, d2] => { results := [.lit (.bool true)], args := [d1, d2] }
  | _ => none }
def nearWeightsRow : OpenClaim := { program := "ytpdhabfebpjihaa", sum := "8054f3f97d534d3297f22d2029bd6d57081bf42f9b3fed903ba8f0668fefbab7", func := "limewash/limewashlaw11.NearWeights", spec := "nearWeights", unfollowed := true, recurses := true, apart := false }
def NearWeightsSaid : Prop := nearWeightsRow.holds Try.pinned (OpenSpec.ofChange nearWeightsSpec)

/-- ITS FALSE NEIGHBOUR: 'it returns false'. Refute it at one input. -/
def nearWeightsWrong : ChangeSpec := { name := "nearWeights", fn := fun _ => fun
  | [d1, d2] => { results := [.lit (.bool false)], args := [d1, d2] }
  | _ => none }
def NearWeightsWrongFalsely : Prop := nearWeightsRow.holds Try.pinned (OpenSpec.ofChange nearWeightsWrong)

/-- 'limewashlaw11.NearDoes': WHATEVER THE INPUT: true; the input reads as it did. -/
def nearDoesSpec : ChangeSpec := { name := "nearDoes", fn := fun _ => fun
  | [d1, d2, d3, d4, d5] => { results := [.lit (.bool true)], args := [d1, d2, d3, d4, d5] }
  | _ => none }
def nearDoesRow : OpenClaim := { program := "ytpdhabfebpjihaa", sum := "8054f3f97d534d3297f22d2029bd6d57081bf42f9b3fed903ba8f0668fefbab7", func := "limewash/limewashlaw11.NearDoes", spec := "nearDoes", unfollowed := true, recurses := true, apart := false }
def NearDoesSaid : Prop := nearDoesRow.holds Try.pinned (OpenSpec.ofChange nearDoesSpec)

/-- ITS FALSE NEIGHBOUR: 'it returns false'. Refute it at one input. -/
def nearDoesWrong : ChangeSpec := { name := "nearDoes", fn := fun _ => fun
  | [d1, d2, d3, d4, d5] => { results := [.lit (.bool false)], args := [d1, d2, d3, d4, d5] }
  | _ => none }
def NearDoesWrongFalsely : Prop := nearDoesRow.holds Try.pinned (OpenSpec.ofChange nearDoesWrong)

/-- 'limewashlaw11.NearLift': WHATEVER THE INPUT: true; the input reads as it did. -/
def nearLiftSpec : ChangeSpec := { name := "nearLift", fn := fun _ => fun
  | [d1, d2, d3] => { results := [.lit (.bool true)], args := [d1, d2, d3] }
  | _ => none }
def nearLiftRow : OpenClaim := { program := "ytpdhabfebpjihaa", sum := "8054f3f97d534d3297f22d2029bd6d57081bf42f9b3fed903ba8f0668fefbab7", func := "limewash/limewashlaw11.NearLift", spec := "nearLift", unfollowed := true, recurses := true, apart := false }
def NearLiftSaid : Prop := nearLiftRow.holds Try.pinned (OpenSpec.ofChange nearLiftSpec)

/-- ITS FALSE NEIGHBOUR: 'it returns false'. Refute it at one input. -/
def nearLiftWrong : ChangeSpec := { name := "nearLift", fn := fun _ => fun
  | [d1, d2, d3] => { results := [.lit (.bool false)], args := [d1, d2, d3] }
  | _ => none }
def NearLiftWrongFalsely : Prop := nearLiftRow.holds Try.pinned (OpenSpec.ofChange nearLiftWrong)

/- THE SECOND FORM. 'bulk': how many values and letters a reading holds, each counted each time it is reached (what is shared counts as often as it is met; a slice's spare places count too). A statement '..UptoSaid' is the law's where the arguments, and the package variables that the reading takes, are together of bulk at most 1048576: NARROWER than '..Said'. Prove '..Said' where nothing that the law and all that it calls make is longer than what came in: it says more and counts as full. Else prove '..UptoSaid'. A law counts once. -/
mutual
def uptoBulk {H : Type} : DataW H → Nat
  | .lit (.string bytes) => bytes.length + 1
  | .lit _ => 1
  | .nil => 1
  | .ptr d => uptoBulk d + 1
  | .slice elems spare => uptoBulkAll elems + uptoBulkAll spare + 1
  | .agg parts => uptoBulkAll parts + 1
  | .iface _ d => uptoBulk d + 1
  | .map entries => uptoBulkEntries entries + 1
  | .held _ => 1
def uptoBulkAll {H : Type} : List (DataW H) → Nat
  | [] => 0
  | d :: r => uptoBulk d + uptoBulkAll r
def uptoBulkEntries {H : Type} : List (Lit × DataW H) → Nat
  | [] => 0
  | x :: r => uptoBulkEntry x + uptoBulkEntries r
def uptoBulkEntry {H : Type} : Lit × DataW H → Nat
  | (.string bytes, d) => bytes.length + uptoBulk d + 1
  | (_, d) => uptoBulk d + 1
 end
def uptoSmall : (H : Type) → List (DataW H) → Bool := fun _ ds => decide (uptoBulkAll ds ≤ 1048576)
def OpenSpec.upto (s : _root_.Go.ChangeSpec) : _root_.Go.OpenSpec := { _root_.Go.OpenSpec.ofChange s with cond := some uptoSmall }

/-- 'limewashlaw11.NearLeast', WHERE WHAT IT READS IS OF BULK AT MOST 1048576: true; the input reads as it did. -/
def nearLeastUptoRow : OpenClaim := { program := "ytpdhabfebpjihaa", sum := "8054f3f97d534d3297f22d2029bd6d57081bf42f9b3fed903ba8f0668fefbab7", func := "limewash/limewashlaw11.NearLeast", spec := "nearLeast", unfollowed := true, recurses := true, apart := false, narrowed := true }
def NearLeastUptoSaid : Prop := nearLeastUptoRow.holds Try.pinned (OpenSpec.upto nearLeastSpec)

/-- 'limewashlaw11.NearEdge', WHERE WHAT IT READS IS OF BULK AT MOST 1048576: true; the input reads as it did. -/
def nearEdgeUptoRow : OpenClaim := { program := "ytpdhabfebpjihaa", sum := "8054f3f97d534d3297f22d2029bd6d57081bf42f9b3fed903ba8f0668fefbab7", func := "limewash/limewashlaw11.NearEdge", spec := "nearEdge", unfollowed := true, recurses := true, apart := false, narrowed := true }
def NearEdgeUptoSaid : Prop := nearEdgeUptoRow.holds Try.pinned (OpenSpec.upto nearEdgeSpec)

/-- 'limewashlaw11.NearWeights', WHERE WHAT IT READS IS OF BULK AT MOST 1048576: true; the input reads as it did. -/
def nearWeightsUptoRow : OpenClaim := { program := "ytpdhabfebpjihaa", sum := "8054f3f97d534d3297f22d2029bd6d57081bf42f9b3fed903ba8f0668fefbab7", func := "limewash/limewashlaw11.NearWeights", spec := "nearWeights", unfollowed := true, recurses := true, apart := false, narrowed := true }
def NearWeightsUptoSaid : Prop := nearWeightsUptoRow.holds Try.pinned (OpenSpec.upto nearWeightsSpec)

/-- 'limewashlaw11.NearDoes', WHERE WHAT IT READS IS OF BULK AT MOST 1048576: true; the input reads as it did. -/
def nearDoesUptoRow : OpenClaim := { program := "ytpdhabfebpjihaa", sum := "8054f3f97d534d3297f22d2029bd6d57081bf42f9b3fed903ba8f0668fefbab7", func := "limewash/limewashlaw11.NearDoes", spec := "nearDoes", unfollowed := true, recurses := true, apart := false, narrowed := true }
def NearDoesUptoSaid : Prop := nearDoesUptoRow.holds Try.pinned (OpenSpec.upto nearDoesSpec)

/-- 'limewashlaw11.NearLift', WHERE WHAT IT READS IS OF BULK AT MOST 1048576: true; the input reads as it did. -/
def nearLiftUptoRow : OpenClaim := { program := "ytpdhabfebpjihaa", sum := "8054f3f97d534d3297f22d2029bd6d57081bf42f9b3fed903ba8f0668fefbab7", func := "limewash/limewashlaw11.NearLift", spec := "nearLift", unfollowed := true, recurses := true, apart := false, narrowed := true }
def NearLiftUptoSaid : Prop := nearLiftUptoRow.holds Try.pinned (OpenSpec.upto nearLiftSpec)

end Rows
end Go.Proofs.Ytpdhabfebpjihaa
