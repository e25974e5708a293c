/-
  No cell of these rows narrows 'for every input' (looked for: loops, veiled, ifaces, maps, wideKeys, modest, calm, conditions, laid).
  DERIVED. THE GIVEN ROWS OF THIS SEAT. 5 by the template 'for every input the law returns true; each argument reads behind the call as it read before'; 0 by the template 'total and deterministic' (their statements: YtleemdeodmdnkaaTotals.lean).
  GIVEN WITH THE SEED: the statements are not yours to turn. If you find one false, say at which input.
  Laid BY PROGRAM, IN A SANDBOX (cutbox-rows.mjs): the forced cells as the released guide's own fill.sh prints them over the translation 2d07bfb791c08aab… (all of the seat's roots in one cut). By AI agents, Wed Nov 11 2026. No macro, syntax, notation, axiom, sorry.
-/
import Derived.Test.YtleemdeodmdnkaaChecked
import GoSem.Claim
import GoSem.ClaimJoined
import GoSem.ClaimMapViews
import Derived.JoinedTies
import Derived.KernelRfl
namespace Go.Proofs.Ytleemdeodmdnkaa
/- THE CELL 'sum', in the pinned program and in every row, IS THE sha256 OF THE DUMP (.gsa) THAT YtleemdeodmdnkaaProg.lean LOADS. Nothing in Lean hashes anything: it is a label: what it is worth is what the hold of that sum in a sandbox is worth. -/
noncomputable def Try.pinned : Pinned := { name := "ytleemdeodmdnkaa", sum := "2d07bfb791c08aab810892db59679c8e49ae8e84434ac56f50304a040350fcf0", checked := Try.checked }
namespace Rows
def none {H : Type} : Left H := { results := [], args := [] }

/-- 'limewashlaw14.EdgeDoes': WHATEVER THE INPUT: true; the input reads as it did. -/
def edgeDoesSpec : ChangeSpec := { name := "edgeDoes", fn := fun _ => fun
  | [d1, d2, d3, d4, d5] => { results := [.lit (.bool true)], args := [d1, d2, d3, d4, d5] }
  | _ => none }
def edgeDoesRow : OpenClaim := { program := "ytleemdeodmdnkaa", sum := "2d07bfb791c08aab810892db59679c8e49ae8e84434ac56f50304a040350fcf0", func := "limewash/limewashlaw14.EdgeDoes", spec := "edgeDoes", unfollowed := true, recurses := true, plainKeys := false, apart := false }
def EdgeDoesSaid : Prop := edgeDoesRow.holds Try.pinned (OpenSpec.ofChange edgeDoesSpec)

/-- ITS FALSE NEIGHBOUR: 'it returns false'. Refute it at one input. -/
def edgeDoesWrong : ChangeSpec := { name := "edgeDoes", fn := fun _ => fun
  | [d1, d2, d3, d4, d5] => { results := [.lit (.bool false)], args := [d1, d2, d3, d4, d5] }
  | _ => none }
def EdgeDoesWrongFalsely : Prop := edgeDoesRow.holds Try.pinned (OpenSpec.ofChange edgeDoesWrong)

/-- 'limewashlaw14.EdgeNext': WHATEVER THE INPUT: true; the input reads as it did. -/
def edgeNextSpec : ChangeSpec := { name := "edgeNext", fn := fun _ => fun
  | [d] => { results := [.lit (.bool true)], args := [d] }
  | _ => none }
def edgeNextRow : OpenClaim := { program := "ytleemdeodmdnkaa", sum := "2d07bfb791c08aab810892db59679c8e49ae8e84434ac56f50304a040350fcf0", func := "limewash/limewashlaw14.EdgeNext", spec := "edgeNext", unfollowed := true, recurses := true, plainKeys := false, apart := false }
def EdgeNextSaid : Prop := edgeNextRow.holds Try.pinned (OpenSpec.ofChange edgeNextSpec)

/-- ITS FALSE NEIGHBOUR: 'it returns false'. Refute it at one input. -/
def edgeNextWrong : ChangeSpec := { name := "edgeNext", fn := fun _ => fun
  | [d] => { results := [.lit (.bool false)], args := [d] }
  | _ => none }
def EdgeNextWrongFalsely : Prop := edgeNextRow.holds Try.pinned (OpenSpec.ofChange edgeNextWrong)

/-- 'limewashlaw14.EdgeThree': WHATEVER THE INPUT: true; the input reads as it did. -/
def edgeThreeSpec : ChangeSpec := { name := "edgeThree", fn := fun _ => fun
  | [d] => { results := [.lit (.bool true)], args := [d] }
  | _ => none }
def edgeThreeRow : OpenClaim := { program := "ytleemdeodmdnkaa", sum := "2d07bfb791c08aab810892db59679c8e49ae8e84434ac56f50304a040350fcf0", func := "limewash/limewashlaw14.EdgeThree", spec := "edgeThree", unfollowed := true, recurses := true, plainKeys := false, apart := false }
def EdgeThreeSaid : Prop := edgeThreeRow.holds Try.pinned (OpenSpec.ofChange edgeThreeSpec)

/-- ITS FALSE NEIGHBOUR: 'it returns false'. Refute it at one input. -/
def edgeThreeWrong : ChangeSpec := { name := "edgeThree", fn := fun _ => fun
  | [d] => { results := [.lit (.bool false)], args := [d] }
  | _ => none }
def EdgeThreeWrongFalsely : Prop := edgeThreeRow.holds Try.pinned (OpenSpec.ofChange edgeThreeWrong)

/-- 'limewashlaw14.EdgeParts': WHATEVER THE INPUT: true; the input reads as it did. -/
def edgePartsSpec : ChangeSpec := { name := "edgeParts", fn := fun _ => fun
  | [d1, d2, d3, d4] => { results := [.lit (.bool true)], args := [d1, d2, d3, d4] }
  | _ => none }
def edgePartsRow : OpenClaim := { program := "ytleemdeodmdnkaa", sum := "2d07bfb791c08aab810892db59679c8e49ae8e84434ac56f50304a040350fcf0", func := "limewash/limewashlaw14.EdgeParts", spec := "edgeParts", unfollowed := true, recurses := true, plainKeys := false, apart := false }
def EdgePartsSaid : Prop := edgePartsRow.holds Try.pinned (OpenSpec.ofChange edgePartsSpec)

/-- ITS FALSE NEIGHBOUR: 'it returns false'. Refute it at one input. -/
def edgePartsWrong : ChangeSpec := { name := "edgeParts", fn := fun _ => fun
  | [d1, d2, d3, d4] => { results := [.lit (.bool false)], args := [d1, d2, d3, d4] }
  | _ => none }
def EdgePartsWrongFalsely : Prop := edgePartsRow.holds Try.pinned (OpenSpec.ofChange edgePartsWrong)

/-- 'limewashlaw14.EdgeLoose': WHATEVER THE INPUT: true; the input reads as it did. -/
def edgeLooseSpec : ChangeSpec := { name := "edgeLoose", fn := fun _ => fun
  | [d] => { results := [.lit (.bool true)], args := [d] }
  | _ => none }
def edgeLooseRow : OpenClaim := { program := "ytleemdeodmdnkaa", sum := "2d07bfb791c08aab810892db59679c8e49ae8e84434ac56f50304a040350fcf0", func := "limewash/limewashlaw14.EdgeLoose", spec := "edgeLoose", unfollowed := true, recurses := true, plainKeys := false, apart := false }
def EdgeLooseSaid : Prop := edgeLooseRow.holds Try.pinned (OpenSpec.ofChange edgeLooseSpec)

/-- ITS FALSE NEIGHBOUR: 'it returns false'. Refute it at one input. -/
def edgeLooseWrong : ChangeSpec := { name := "edgeLoose", fn := fun _ => fun
  | [d] => { results := [.lit (.bool false)], args := [d] }
  | _ => none }
def EdgeLooseWrongFalsely : Prop := edgeLooseRow.holds Try.pinned (OpenSpec.ofChange edgeLooseWrong)

/- THE SECOND FORM. 'bulk': how many values and letters a reading holds, each counted each time it is reached (what is shared counts as often as it is met; a slice's spare places count too). A statement '..UptoSaid' is the law's where the arguments, and the package variables that the reading takes, are together of bulk at most 1048576: NARROWER than '..Said'. Prove '..Said' where nothing that the law and all that it calls make is longer than what came in: it says more and counts as full. Else prove '..UptoSaid'. A law counts once. -/
mutual
def uptoBulk {H : Type} : DataW H → Nat
  | .lit (.string bytes) => bytes.length + 1
  | .lit _ => 1
  | .nil => 1
  | .ptr d => uptoBulk d + 1
  | .slice elems spare => uptoBulkAll elems + uptoBulkAll spare + 1
  | .agg parts => uptoBulkAll parts + 1
  | .iface _ d => uptoBulk d + 1
  | .map entries => uptoBulkEntries entries + 1
  | .held _ => 1
def uptoBulkAll {H : Type} : List (DataW H) → Nat
  | [] => 0
  | d :: r => uptoBulk d + uptoBulkAll r
def uptoBulkEntries {H : Type} : List (Lit × DataW H) → Nat
  | [] => 0
  | x :: r => uptoBulkEntry x + uptoBulkEntries r
def uptoBulkEntry {H : Type} : Lit × DataW H → Nat
  | (.string bytes, d) => bytes.length + uptoBulk d + 1
  | (_, d) => uptoBulk d + 1
 end
def uptoSmall : (H : Type) → List (DataW H) → Bool := fun _ ds => decide (uptoBulkAll ds ≤ 1048576)
def OpenSpec.upto (s : _root_.Go.ChangeSpec) : _root_.Go.OpenSpec := { _root_.Go.OpenSpec.ofChange s with cond := some uptoSmall }

/-- 'limewashlaw14.EdgeDoes', WHERE WHAT IT READS IS OF BULK AT MOST 1048576: true; the input reads as it did. -/
def edgeDoesUptoRow : OpenClaim := { program := "ytleemdeodmdnkaa", sum := "2d07bfb791c08aab810892db59679c8e49ae8e84434ac56f50304a040350fcf0", func := "limewash/limewashlaw14.EdgeDoes", spec := "edgeDoes", unfollowed := true, recurses := true, plainKeys := false, apart := false, narrowed := true }
def EdgeDoesUptoSaid : Prop := edgeDoesUptoRow.holds Try.pinned (OpenSpec.upto edgeDoesSpec)

/-- 'limewashlaw14.EdgeNext', WHERE WHAT IT READS IS OF BULK AT MOST 1048576: true; the input reads as it did. -/
def edgeNextUptoRow : OpenClaim := { program := "ytleemdeodmdnkaa", sum := "2d07bfb791c08aab810892db59679c8e49ae8e84434ac56f50304a040350fcf0", func := "limewash/limewashlaw14.EdgeNext", spec := "edgeNext", unfollowed := true, recurses := true, plainKeys := false, apart := false, narrowed := true }
def EdgeNextUptoSaid : Prop := edgeNextUptoRow.holds Try.pinned (OpenSpec.upto edgeNextSpec)

/-- 'limewashlaw14.EdgeThree', WHERE WHAT IT READS IS OF BULK AT MOST 1048576: true; the input reads as it did. -/
def edgeThreeUptoRow : OpenClaim := { program := "ytleemdeodmdnkaa", sum := "2d07bfb791c08aab810892db59679c8e49ae8e84434ac56f50304a040350fcf0", func := "limewash/limewashlaw14.EdgeThree", spec := "edgeThree", unfollowed := true, recurses := true, plainKeys := false, apart := false, narrowed := true }
def EdgeThreeUptoSaid : Prop := edgeThreeUptoRow.holds Try.pinned (OpenSpec.upto edgeThreeSpec)

/-- 'limewashlaw14.EdgeParts', WHERE WHAT IT READS IS OF BULK AT MOST 1048576: true; the input reads as it did. -/
def edgePartsUptoRow : OpenClaim := { program := "ytleemdeodmdnkaa", sum := "2d07bfb791c08aab810892db59679c8e49ae8e84434ac56f50304a040350fcf0", func := "limewash/limewashlaw14.EdgeParts", spec := "edgeParts", unfollowed := true, recurses := true, plainKeys := false, apart := false, narrowed := true }
def EdgePartsUptoSaid : Prop := edgePartsUptoRow.holds Try.pinned (OpenSpec.upto edgePartsSpec)

/-- 'limewashlaw14.EdgeLoose', WHERE WHAT IT READS IS OF BULK AT MOST 1048576: true; the input reads as it did. -/
def edgeLooseUptoRow : OpenClaim := { program := "ytleemdeodmdnkaa", sum := "2d07bfb791c08aab810892db59679c8e49ae8e84434ac56f50304a040350fcf0", func := "limewash/limewashlaw14.EdgeLoose", spec := "edgeLoose", unfollowed := true, recurses := true, plainKeys := false, apart := false, narrowed := true }
def EdgeLooseUptoSaid : Prop := edgeLooseUptoRow.holds Try.pinned (OpenSpec.upto edgeLooseSpec)

end Rows
end Go.Proofs.Ytleemdeodmdnkaa
