/-
  No cell of these rows narrows 'for every input' (looked for: loops, veiled, ifaces, maps, wideKeys, modest, calm, conditions, laid).
  DERIVED. THE GIVEN ROWS OF THIS SEAT. 4 by the template 'for every input the law returns true; each argument reads behind the call as it read before'; 0 by the template 'total and deterministic' (their statements: YtaipcbdilkcdbaaTotals.lean).
  GIVEN WITH THE SEED: the statements are not yours to turn. If you find one false, say at which input.
  Laid BY PROGRAM, IN A SANDBOX (cutbox-rows.mjs): the forced cells as the released guide's own fill.sh prints them over the translation 9ed83adc0b81baf4… (all of the seat's roots in one cut). By AI agents, Wed Nov 11 2026. No macro, syntax, notation, axiom, sorry.
-/
import Derived.Test.YtaipcbdilkcdbaaChecked
import GoSem.Claim
import GoSem.ClaimJoined
import GoSem.ClaimMapViews
import Derived.JoinedTies
import Derived.KernelRfl
namespace Go.Proofs.Ytaipcbdilkcdbaa
/- THE CELL 'sum', in the pinned program and in every row, IS THE sha256 OF THE DUMP (.gsa) THAT YtaipcbdilkcdbaaProg.lean LOADS. Nothing in Lean hashes anything: it is a label: what it is worth is what the hold of that sum in a sandbox is worth. -/
noncomputable def Try.pinned : Pinned := { name := "ytaipcbdilkcdbaa", sum := "9ed83adc0b81baf46a30e3b5db0cb7ba20a1cba51e802c97852541707c14cbe5", checked := Try.checked }
namespace Rows
def none {H : Type} : Left H := { results := [], args := [] }

/-- 'limewashlaw21.TreeRight': WHATEVER THE INPUT: true; the input reads as it did. -/
def treeRightSpec : ChangeSpec := { name := "treeRight", fn := fun _ => fun
  | [d] => { results := [.lit (.bool true)], args := [d] }
  | _ => none }
def treeRightRow : OpenClaim := { program := "ytaipcbdilkcdbaa", sum := "9ed83adc0b81baf46a30e3b5db0cb7ba20a1cba51e802c97852541707c14cbe5", func := "limewash/limewashlaw21.TreeRight", spec := "treeRight", unfollowed := true, recurses := true, apart := false }
def TreeRightSaid : Prop := treeRightRow.holds Try.pinned (OpenSpec.ofChange treeRightSpec)

/-- ITS FALSE NEIGHBOUR: 'it returns false'. Refute it at one input. -/
def treeRightWrong : ChangeSpec := { name := "treeRight", fn := fun _ => fun
  | [d] => { results := [.lit (.bool false)], args := [d] }
  | _ => none }
def TreeRightWrongFalsely : Prop := treeRightRow.holds Try.pinned (OpenSpec.ofChange treeRightWrong)

/-- 'limewashlaw21.TreeSplit': WHATEVER THE INPUT: true; the input reads as it did. -/
def treeSplitSpec : ChangeSpec := { name := "treeSplit", fn := fun _ => fun
  | [d1, d2] => { results := [.lit (.bool true)], args := [d1, d2] }
  | _ => none }
def treeSplitRow : OpenClaim := { program := "ytaipcbdilkcdbaa", sum := "9ed83adc0b81baf46a30e3b5db0cb7ba20a1cba51e802c97852541707c14cbe5", func := "limewash/limewashlaw21.TreeSplit", spec := "treeSplit", unfollowed := true, recurses := true, apart := false }
def TreeSplitSaid : Prop := treeSplitRow.holds Try.pinned (OpenSpec.ofChange treeSplitSpec)

/-- ITS FALSE NEIGHBOUR: 'it returns false'. Refute it at one input. -/
def treeSplitWrong : ChangeSpec := { name := "treeSplit", fn := fun _ => fun
  | [d1, d2] => { results := [.lit (.bool false)], args := [d1, d2] }
  | _ => none }
def TreeSplitWrongFalsely : Prop := treeSplitRow.holds Try.pinned (OpenSpec.ofChange treeSplitWrong)

/-- 'limewashlaw21.TreeLost': WHATEVER THE INPUT: true; the input reads as it did. -/
def treeLostSpec : ChangeSpec := { name := "treeLost", fn := fun _ => fun
  | [d1, d2] => { results := [.lit (.bool true)], args := [d1, d2] }
  | _ => none }
def treeLostRow : OpenClaim := { program := "ytaipcbdilkcdbaa", sum := "9ed83adc0b81baf46a30e3b5db0cb7ba20a1cba51e802c97852541707c14cbe5", func := "limewash/limewashlaw21.TreeLost", spec := "treeLost", unfollowed := true, recurses := true, apart := false }
def TreeLostSaid : Prop := treeLostRow.holds Try.pinned (OpenSpec.ofChange treeLostSpec)

/-- ITS FALSE NEIGHBOUR: 'it returns false'. Refute it at one input. -/
def treeLostWrong : ChangeSpec := { name := "treeLost", fn := fun _ => fun
  | [d1, d2] => { results := [.lit (.bool false)], args := [d1, d2] }
  | _ => none }
def TreeLostWrongFalsely : Prop := treeLostRow.holds Try.pinned (OpenSpec.ofChange treeLostWrong)

/-- 'limewashlaw21.TreeBoxes': WHATEVER THE INPUT: true; the input reads as it did. -/
def treeBoxesSpec : ChangeSpec := { name := "treeBoxes", fn := fun _ => fun
  | [d] => { results := [.lit (.bool true)], args := [d] }
  | _ => none }
def treeBoxesRow : OpenClaim := { program := "ytaipcbdilkcdbaa", sum := "9ed83adc0b81baf46a30e3b5db0cb7ba20a1cba51e802c97852541707c14cbe5", func := "limewash/limewashlaw21.TreeBoxes", spec := "treeBoxes", unfollowed := true, recurses := true, apart := false }
def TreeBoxesSaid : Prop := treeBoxesRow.holds Try.pinned (OpenSpec.ofChange treeBoxesSpec)

/-- ITS FALSE NEIGHBOUR: 'it returns false'. Refute it at one input. -/
def treeBoxesWrong : ChangeSpec := { name := "treeBoxes", fn := fun _ => fun
  | [d] => { results := [.lit (.bool false)], args := [d] }
  | _ => none }
def TreeBoxesWrongFalsely : Prop := treeBoxesRow.holds Try.pinned (OpenSpec.ofChange treeBoxesWrong)

/- THE SECOND FORM. 'bulk': how many values and letters a reading holds, each counted each time it is reached (what is shared counts as often as it is met; a slice's spare places count too). A statement '..UptoSaid' is the law's where the arguments, and the package variables that the reading takes, are together of bulk at most 1048576: NARROWER than '..Said'. Prove '..Said' where nothing that the law and all that it calls make is longer than what came in: it says more and counts as full. Else prove '..UptoSaid'. A law counts once. -/
mutual
def uptoBulk {H : Type} : DataW H → Nat
  | .lit (.string bytes) => bytes.length + 1
  | .lit _ => 1
  | .nil => 1
  | .ptr d => uptoBulk d + 1
  | .slice elems spare => uptoBulkAll elems + uptoBulkAll spare + 1
  | .agg parts => uptoBulkAll parts + 1
  | .iface _ d => uptoBulk d + 1
  | .map entries => uptoBulkEntries entries + 1
  | .held _ => 1
def uptoBulkAll {H : Type} : List (DataW H) → Nat
  | [] => 0
  | d :: r => uptoBulk d + uptoBulkAll r
def uptoBulkEntries {H : Type} : List (Lit × DataW H) → Nat
  | [] => 0
  | x :: r => uptoBulkEntry x + uptoBulkEntries r
def uptoBulkEntry {H : Type} : Lit × DataW H → Nat
  | (.string bytes, d) => bytes.length + uptoBulk d + 1
  | (_, d) => uptoBulk d + 1
 end
def uptoSmall : (H : Type) → List (DataW H) → Bool := fun _ ds => decide (uptoBulkAll ds ≤ 1048576)
def OpenSpec.upto (s : _root_.Go.ChangeSpec) : _root_.Go.OpenSpec := { _root_.Go.OpenSpec.ofChange s with cond := some uptoSmall }

/-- 'limewashlaw21.TreeRight', WHERE WHAT IT READS IS OF BULK AT MOST 1048576: true; the input reads as it did. -/
def treeRightUptoRow : OpenClaim := { program := "ytaipcbdilkcdbaa", sum := "9ed83adc0b81baf46a30e3b5db0cb7ba20a1cba51e802c97852541707c14cbe5", func := "limewash/limewashlaw21.TreeRight", spec := "treeRight", unfollowed := true, recurses := true, apart := false, narrowed := true }
def TreeRightUptoSaid : Prop := treeRightUptoRow.holds Try.pinned (OpenSpec.upto treeRightSpec)

/-- 'limewashlaw21.TreeSplit', WHERE WHAT IT READS IS OF BULK AT MOST 1048576: true; the input reads as it did. -/
def treeSplitUptoRow : OpenClaim := { program := "ytaipcbdilkcdbaa", sum := "9ed83adc0b81baf46a30e3b5db0cb7ba20a1cba51e802c97852541707c14cbe5", func := "limewash/limewashlaw21.TreeSplit", spec := "treeSplit", unfollowed := true, recurses := true, apart := false, narrowed := true }
def TreeSplitUptoSaid : Prop := treeSplitUptoRow.holds Try.pinned (OpenSpec.upto treeSplitSpec)

/-- 'limewashlaw21.TreeLost', WHERE WHAT IT READS IS OF BULK AT MOST 1048576: true; the input reads as it did. -/
def treeLostUptoRow : OpenClaim := { program := "ytaipcbdilkcdbaa", sum := "9ed83adc0b81baf46a30e3b5db0cb7ba20a1cba51e802c97852541707c14cbe5", func := "limewash/limewashlaw21.TreeLost", spec := "treeLost", unfollowed := true, recurses := true, apart := false, narrowed := true }
def TreeLostUptoSaid : Prop := treeLostUptoRow.holds Try.pinned (OpenSpec.upto treeLostSpec)

/-- 'limewashlaw21.TreeBoxes', WHERE WHAT IT READS IS OF BULK AT MOST 1048576: true; the input reads as it did. -/
def treeBoxesUptoRow : OpenClaim := { program := "ytaipcbdilkcdbaa", sum := "9ed83adc0b81baf46a30e3b5db0cb7ba20a1cba51e802c97852541707c14cbe5", func := "limewash/limewashlaw21.TreeBoxes", spec := "treeBoxes", unfollowed := true, recurses := true, apart := false, narrowed := true }
def TreeBoxesUptoSaid : Prop := treeBoxesUptoRow.holds Try.pinned (OpenSpec.upto treeBoxesSpec)

end Rows
end Go.Proofs.Ytaipcbdilkcdbaa
