/-
  No cell of these rows narrows 'for every input' (looked for: loops, veiled, ifaces, maps, wideKeys, modest, calm, conditions, laid).
  DERIVED. THE GIVEN ROWS OF THIS SEAT. 4 by the template 'for every input the law returns true; each argument reads behind the call as it read before'; 0 by the template 'total and deterministic' (their statements: YtkbmjhabfjgoiaaTotals.lean).
  GIVEN WITH THE SEED: the statements are not yours to turn. If you find one false, say at which input.
  Laid BY PROGRAM, IN A SANDBOX (cutbox-rows.mjs): the forced cells as the released guide's own fill.sh prints them over the translation aafdf899b0dccfe9… (all of the seat's roots in one cut). By AI agents, Wed Nov 11 2026. No macro, syntax, notation, axiom, sorry.
-/
import Derived.Test.YtkbmjhabfjgoiaaChecked
import GoSem.Claim
import GoSem.ClaimJoined
import GoSem.ClaimMapViews
import Derived.JoinedTies
import Derived.KernelRfl
namespace Go.Proofs.Ytkbmjhabfjgoiaa
/- THE CELL 'sum', in the pinned program and in every row, IS THE sha256 OF THE DUMP (.gsa) THAT YtkbmjhabfjgoiaaProg.lean LOADS. Nothing in Lean hashes anything: it is a label: what it is worth is what the hold of that sum in a sandbox is worth. -/
noncomputable def Try.pinned : Pinned := { name := "ytkbmjhabfjgoiaa", sum := "aafdf899b0dccfe9298992d4258074107abd0a865d3cfba24b9a39269bd26d89", checked := Try.checked }
namespace Rows
def none {H : Type} : Left H := { results := [], args := [] }

/-- 'limewashlaw15.ChartWhole': WHATEVER THE INPUT: true; the input reads as it did. -/
def chartWholeSpec : ChangeSpec := { name := "chartWhole", fn := fun _ => fun
  | [d] => { results := [.lit (.bool true)], args := [d] }
  | _ => none }
def chartWholeRow : OpenClaim := { program := "ytkbmjhabfjgoiaa", sum := "aafdf899b0dccfe9298992d4258074107abd0a865d3cfba24b9a39269bd26d89", func := "limewash/limewashlaw15.ChartWhole", spec := "chartWhole", unfollowed := true, recurses := true, plainKeys := false, apart := false }
def ChartWholeSaid : Prop := chartWholeRow.holds Try.pinned (OpenSpec.ofChange chartWholeSpec)

/-- ITS FALSE NEIGHBOUR: 'it returns false'. Refute it at one input. -/
def chartWholeWrong : ChangeSpec := { name := "chartWhole", fn := fun _ => fun
  | [d] => { results := [.lit (.bool false)], args := [d] }
  | _ => none }
def ChartWholeWrongFalsely : Prop := chartWholeRow.holds Try.pinned (OpenSpec.ofChange chartWholeWrong)

/-- 'limewashlaw15.ChartApart': WHATEVER THE INPUT: true; the input reads as it did. -/
def chartApartSpec : ChangeSpec := { name := "chartApart", fn := fun _ => fun
  | [d] => { results := [.lit (.bool true)], args := [d] }
  | _ => none }
def chartApartRow : OpenClaim := { program := "ytkbmjhabfjgoiaa", sum := "aafdf899b0dccfe9298992d4258074107abd0a865d3cfba24b9a39269bd26d89", func := "limewash/limewashlaw15.ChartApart", spec := "chartApart", unfollowed := true, recurses := true, plainKeys := false, apart := false }
def ChartApartSaid : Prop := chartApartRow.holds Try.pinned (OpenSpec.ofChange chartApartSpec)

/-- ITS FALSE NEIGHBOUR: 'it returns false'. Refute it at one input. -/
def chartApartWrong : ChangeSpec := { name := "chartApart", fn := fun _ => fun
  | [d] => { results := [.lit (.bool false)], args := [d] }
  | _ => none }
def ChartApartWrongFalsely : Prop := chartApartRow.holds Try.pinned (OpenSpec.ofChange chartApartWrong)

/-- 'limewashlaw15.ChartTurned': WHATEVER THE INPUT: true; the input reads as it did. -/
def chartTurnedSpec : ChangeSpec := { name := "chartTurned", fn := fun _ => fun
  | [d] => { results := [.lit (.bool true)], args := [d] }
  | _ => none }
def chartTurnedRow : OpenClaim := { program := "ytkbmjhabfjgoiaa", sum := "aafdf899b0dccfe9298992d4258074107abd0a865d3cfba24b9a39269bd26d89", func := "limewash/limewashlaw15.ChartTurned", spec := "chartTurned", unfollowed := true, recurses := true, plainKeys := false, apart := false }
def ChartTurnedSaid : Prop := chartTurnedRow.holds Try.pinned (OpenSpec.ofChange chartTurnedSpec)

/-- ITS FALSE NEIGHBOUR: 'it returns false'. Refute it at one input. -/
def chartTurnedWrong : ChangeSpec := { name := "chartTurned", fn := fun _ => fun
  | [d] => { results := [.lit (.bool false)], args := [d] }
  | _ => none }
def ChartTurnedWrongFalsely : Prop := chartTurnedRow.holds Try.pinned (OpenSpec.ofChange chartTurnedWrong)

/-- 'limewashlaw15.ChartFull': WHATEVER THE INPUT: true; the input reads as it did. -/
def chartFullSpec : ChangeSpec := { name := "chartFull", fn := fun _ => fun
  | [d] => { results := [.lit (.bool true)], args := [d] }
  | _ => none }
def chartFullRow : OpenClaim := { program := "ytkbmjhabfjgoiaa", sum := "aafdf899b0dccfe9298992d4258074107abd0a865d3cfba24b9a39269bd26d89", func := "limewash/limewashlaw15.ChartFull", spec := "chartFull", unfollowed := true, recurses := true, plainKeys := false, apart := false }
def ChartFullSaid : Prop := chartFullRow.holds Try.pinned (OpenSpec.ofChange chartFullSpec)

/-- ITS FALSE NEIGHBOUR: 'it returns false'. Refute it at one input. -/
def chartFullWrong : ChangeSpec := { name := "chartFull", fn := fun _ => fun
  | [d] => { results := [.lit (.bool false)], args := [d] }
  | _ => none }
def ChartFullWrongFalsely : Prop := chartFullRow.holds Try.pinned (OpenSpec.ofChange chartFullWrong)

/- THE SECOND FORM. 'bulk': how many values and letters a reading holds, each counted each time it is reached (what is shared counts as often as it is met; a slice's spare places count too). A statement '..UptoSaid' is the law's where the arguments, and the package variables that the reading takes, are together of bulk at most 1048576: NARROWER than '..Said'. Prove '..Said' where nothing that the law and all that it calls make is longer than what came in: it says more and counts as full. Else prove '..UptoSaid'. A law counts once. -/
mutual
def uptoBulk {H : Type} : DataW H → Nat
  | .lit (.string bytes) => bytes.length + 1
  | .lit _ => 1
  | .nil => 1
  | .ptr d => uptoBulk d + 1
  | .slice elems spare => uptoBulkAll elems + uptoBulkAll spare + 1
  | .agg parts => uptoBulkAll parts + 1
  | .iface _ d => uptoBulk d + 1
  | .map entries => uptoBulkEntries entries + 1
  | .held _ => 1
def uptoBulkAll {H : Type} : List (DataW H) → Nat
  | [] => 0
  | d :: r => uptoBulk d + uptoBulkAll r
def uptoBulkEntries {H : Type} : List (Lit × DataW H) → Nat
  | [] => 0
  | x :: r => uptoBulkEntry x + uptoBulkEntries r
def uptoBulkEntry {H : Type} : Lit × DataW H → Nat
  | (.string bytes, d) => bytes.length + uptoBulk d + 1
  | (_, d) => uptoBulk d + 1
 end
def uptoSmall : (H : Type) → List (DataW H) → Bool := fun _ ds => decide (uptoBulkAll ds ≤ 1048576)
def OpenSpec.upto (s : _root_.Go.ChangeSpec) : _root_.Go.OpenSpec := { _root_.Go.OpenSpec.ofChange s with cond := some uptoSmall }

/-- 'limewashlaw15.ChartWhole', WHERE WHAT IT READS IS OF BULK AT MOST 1048576: true; the input reads as it did. -/
def chartWholeUptoRow : OpenClaim := { program := "ytkbmjhabfjgoiaa", sum := "aafdf899b0dccfe9298992d4258074107abd0a865d3cfba24b9a39269bd26d89", func := "limewash/limewashlaw15.ChartWhole", spec := "chartWhole", unfollowed := true, recurses := true, plainKeys := false, apart := false, narrowed := true }
def ChartWholeUptoSaid : Prop := chartWholeUptoRow.holds Try.pinned (OpenSpec.upto chartWholeSpec)

/-- 'limewashlaw15.ChartApart', WHERE WHAT IT READS IS OF BULK AT MOST 1048576: true; the input reads as it did. -/
def chartApartUptoRow : OpenClaim := { program := "ytkbmjhabfjgoiaa", sum := "aafdf899b0dccfe9298992d4258074107abd0a865d3cfba24b9a39269bd26d89", func := "limewash/limewashlaw15.ChartApart", spec := "chartApart", unfollowed := true, recurses := true, plainKeys := false, apart := false, narrowed := true }
def ChartApartUptoSaid : Prop := chartApartUptoRow.holds Try.pinned (OpenSpec.upto chartApartSpec)

/-- 'limewashlaw15.ChartTurned', WHERE WHAT IT READS IS OF BULK AT MOST 1048576: true; the input reads as it did. -/
def chartTurnedUptoRow : OpenClaim := { program := "ytkbmjhabfjgoiaa", sum := "aafdf899b0dccfe9298992d4258074107abd0a865d3cfba24b9a39269bd26d89", func := "limewash/limewashlaw15.ChartTurned", spec := "chartTurned", unfollowed := true, recurses := true, plainKeys := false, apart := false, narrowed := true }
def ChartTurnedUptoSaid : Prop := chartTurnedUptoRow.holds Try.pinned (OpenSpec.upto chartTurnedSpec)

/-- 'limewashlaw15.ChartFull', WHERE WHAT IT READS IS OF BULK AT MOST 1048576: true; the input reads as it did. -/
def chartFullUptoRow : OpenClaim := { program := "ytkbmjhabfjgoiaa", sum := "aafdf899b0dccfe9298992d4258074107abd0a865d3cfba24b9a39269bd26d89", func := "limewash/limewashlaw15.ChartFull", spec := "chartFull", unfollowed := true, recurses := true, plainKeys := false, apart := false, narrowed := true }
def ChartFullUptoSaid : Prop := chartFullUptoRow.holds Try.pinned (OpenSpec.upto chartFullSpec)

end Rows
end Go.Proofs.Ytkbmjhabfjgoiaa
