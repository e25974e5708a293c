/-
  No cell of these rows narrows 'for every input' (looked for: loops, veiled, ifaces, maps, wideKeys, modest, calm, conditions, laid).
  DERIVED. THE GIVEN ROWS OF THIS SEAT. 4 by the template 'for every input the law returns true; each argument reads behind the call as it read before'; 0 by the template 'total and deterministic' (their statements: YtpbbnoggkbfkoaaTotals.lean).
  GIVEN WITH THE SEED: the statements are not yours to turn. If you find one false, say at which input.
  Laid BY PROGRAM, IN A SANDBOX (cutbox-rows.mjs): the forced cells as the released guide's own fill.sh prints them over the translation 8258e53af997f620… (all of the seat's roots in one cut). By AI agents, Wed Nov 11 2026. No macro, syntax, notation, axiom, sorry.
-/
import Derived.Test.YtpbbnoggkbfkoaaChecked
import GoSem.Claim
import GoSem.ClaimJoined
import GoSem.ClaimMapViews
import Derived.JoinedTies
import Derived.KernelRfl
namespace Go.Proofs.Ytpbbnoggkbfkoaa
/- THE CELL 'sum', in the pinned program and in every row, IS THE sha256 OF THE DUMP (.gsa) THAT YtpbbnoggkbfkoaaProg.lean LOADS. Nothing in Lean hashes anything: it is a label: what it is worth is what the hold of that sum in a sandbox is worth. -/
noncomputable def Try.pinned : Pinned := { name := "ytpbbnoggkbfkoaa", sum := "8258e53af997f62006b349b70955d09fd0318ebd1c26cf205a87bf7123246771", checked := Try.checked }
namespace Rows
def none {H : Type} : Left H := { results := [], args := [] }

/-- 'limewashlaw16.FlatRight': WHATEVER THE INPUT: true; the input reads as it did. -/
def flatRightSpec : ChangeSpec := { name := "flatRight", fn := fun _ => fun
  | [d1, d2, d3] => { results := [.lit (.bool true)], args := [d1, d2, d3] }
  | _ => none }
def flatRightRow : OpenClaim := { program := "ytpbbnoggkbfkoaa", sum := "8258e53af997f62006b349b70955d09fd0318ebd1c26cf205a87bf7123246771", func := "limewash/limewashlaw16.FlatRight", spec := "flatRight", unfollowed := true, recurses := true, plainKeys := false, apart := false }
def FlatRightSaid : Prop := flatRightRow.holds Try.pinned (OpenSpec.ofChange flatRightSpec)

/-- ITS FALSE NEIGHBOUR: 'it returns false'. Refute it at one input. -/
def flatRightWrong : ChangeSpec := { name := "flatRight", fn := fun _ => fun
  | [d1, d2, d3] => { results := [.lit (.bool false)], args := [d1, d2, d3] }
  | _ => none }
def FlatRightWrongFalsely : Prop := flatRightRow.holds Try.pinned (OpenSpec.ofChange flatRightWrong)

/-- 'limewashlaw16.FlatInside': WHATEVER THE INPUT: true; the input reads as it did. -/
def flatInsideSpec : ChangeSpec := { name := "flatInside", fn := fun _ => fun
  | [d] => { results := [.lit (.bool true)], args := [d] }
  | _ => none }
def flatInsideRow : OpenClaim := { program := "ytpbbnoggkbfkoaa", sum := "8258e53af997f62006b349b70955d09fd0318ebd1c26cf205a87bf7123246771", func := "limewash/limewashlaw16.FlatInside", spec := "flatInside", unfollowed := true, recurses := true, plainKeys := false, apart := false }
def FlatInsideSaid : Prop := flatInsideRow.holds Try.pinned (OpenSpec.ofChange flatInsideSpec)

/-- ITS FALSE NEIGHBOUR: 'it returns false'. Refute it at one input. -/
def flatInsideWrong : ChangeSpec := { name := "flatInside", fn := fun _ => fun
  | [d] => { results := [.lit (.bool false)], args := [d] }
  | _ => none }
def FlatInsideWrongFalsely : Prop := flatInsideRow.holds Try.pinned (OpenSpec.ofChange flatInsideWrong)

/-- 'limewashlaw16.FlatBox': WHATEVER THE INPUT: true; the input reads as it did. -/
def flatBoxSpec : ChangeSpec := { name := "flatBox", fn := fun _ => fun
  | [d1, d2, d3] => { results := [.lit (.bool true)], args := [d1, d2, d3] }
  | _ => none }
def flatBoxRow : OpenClaim := { program := "ytpbbnoggkbfkoaa", sum := "8258e53af997f62006b349b70955d09fd0318ebd1c26cf205a87bf7123246771", func := "limewash/limewashlaw16.FlatBox", spec := "flatBox", unfollowed := true, recurses := true, plainKeys := false, apart := false }
def FlatBoxSaid : Prop := flatBoxRow.holds Try.pinned (OpenSpec.ofChange flatBoxSpec)

/-- ITS FALSE NEIGHBOUR: 'it returns false'. Refute it at one input. -/
def flatBoxWrong : ChangeSpec := { name := "flatBox", fn := fun _ => fun
  | [d1, d2, d3] => { results := [.lit (.bool false)], args := [d1, d2, d3] }
  | _ => none }
def FlatBoxWrongFalsely : Prop := flatBoxRow.holds Try.pinned (OpenSpec.ofChange flatBoxWrong)

/-- 'limewashlaw16.FlatGrown': WHATEVER THE INPUT: true; the input reads as it did. -/
def flatGrownSpec : ChangeSpec := { name := "flatGrown", fn := fun _ => fun
  | [d1, d2, d3] => { results := [.lit (.bool true)], args := [d1, d2, d3] }
  | _ => none }
def flatGrownRow : OpenClaim := { program := "ytpbbnoggkbfkoaa", sum := "8258e53af997f62006b349b70955d09fd0318ebd1c26cf205a87bf7123246771", func := "limewash/limewashlaw16.FlatGrown", spec := "flatGrown", unfollowed := true, recurses := true, plainKeys := false, apart := false }
def FlatGrownSaid : Prop := flatGrownRow.holds Try.pinned (OpenSpec.ofChange flatGrownSpec)

/-- ITS FALSE NEIGHBOUR: 'it returns false'. Refute it at one input. -/
def flatGrownWrong : ChangeSpec := { name := "flatGrown", fn := fun _ => fun
  | [d1, d2, d3] => { results := [.lit (.bool false)], args := [d1, d2, d3] }
  | _ => none }
def FlatGrownWrongFalsely : Prop := flatGrownRow.holds Try.pinned (OpenSpec.ofChange flatGrownWrong)

/- THE SECOND FORM. 'bulk': how many values and letters a reading holds, each counted each time it is reached (what is shared counts as often as it is met; a slice's spare places count too). A statement '..UptoSaid' is the law's where the arguments, and the package variables that the reading takes, are together of bulk at most 1048576: NARROWER than '..Said'. Prove '..Said' where nothing that the law and all that it calls make is longer than what came in: it says more and counts as full. Else prove '..UptoSaid'. A law counts once. -/
mutual
def uptoBulk {H : Type} : DataW H → Nat
  | .lit (.string bytes) => bytes.length + 1
  | .lit _ => 1
  | .nil => 1
  | .ptr d => uptoBulk d + 1
  | .slice elems spare => uptoBulkAll elems + uptoBulkAll spare + 1
  | .agg parts => uptoBulkAll parts + 1
  | .iface _ d => uptoBulk d + 1
  | .map entries => uptoBulkEntries entries + 1
  | .held _ => 1
def uptoBulkAll {H : Type} : List (DataW H) → Nat
  | [] => 0
  | d :: r => uptoBulk d + uptoBulkAll r
def uptoBulkEntries {H : Type} : List (Lit × DataW H) → Nat
  | [] => 0
  | x :: r => uptoBulkEntry x + uptoBulkEntries r
def uptoBulkEntry {H : Type} : Lit × DataW H → Nat
  | (.string bytes, d) => bytes.length + uptoBulk d + 1
  | (_, d) => uptoBulk d + 1
 end
def uptoSmall : (H : Type) → List (DataW H) → Bool := fun _ ds => decide (uptoBulkAll ds ≤ 1048576)
def OpenSpec.upto (s : _root_.Go.ChangeSpec) : _root_.Go.OpenSpec := { _root_.Go.OpenSpec.ofChange s with cond := some uptoSmall }

/-- 'limewashlaw16.FlatRight', WHERE WHAT IT READS IS OF BULK AT MOST 1048576: true; the input reads as it did. -/
def flatRightUptoRow : OpenClaim := { program := "ytpbbnoggkbfkoaa", sum := "8258e53af997f62006b349b70955d09fd0318ebd1c26cf205a87bf7123246771", func := "limewash/limewashlaw16.FlatRight", spec := "flatRight", unfollowed := true, recurses := true, plainKeys := false, apart := false, narrowed := true }
def FlatRightUptoSaid : Prop := flatRightUptoRow.holds Try.pinned (OpenSpec.upto flatRightSpec)

/-- 'limewashlaw16.FlatInside', WHERE WHAT IT READS IS OF BULK AT MOST 1048576: true; the input reads as it did. -/
def flatInsideUptoRow : OpenClaim := { program := "ytpbbnoggkbfkoaa", sum := "8258e53af997f62006b349b70955d09fd0318ebd1c26cf205a87bf7123246771", func := "limewash/limewashlaw16.FlatInside", spec := "flatInside", unfollowed := true, recurses := true, plainKeys := false, apart := false, narrowed := true }
def FlatInsideUptoSaid : Prop := flatInsideUptoRow.holds Try.pinned (OpenSpec.upto flatInsideSpec)

/-- 'limewashlaw16.FlatBox', WHERE WHAT IT READS IS OF BULK AT MOST 1048576: true; the input reads as it did. -/
def flatBoxUptoRow : OpenClaim := { program := "ytpbbnoggkbfkoaa", sum := "8258e53af997f62006b349b70955d09fd0318ebd1c26cf205a87bf7123246771", func := "limewash/limewashlaw16.FlatBox", spec := "flatBox", unfollowed := true, recurses := true, plainKeys := false, apart := false, narrowed := true }
def FlatBoxUptoSaid : Prop := flatBoxUptoRow.holds Try.pinned (OpenSpec.upto flatBoxSpec)

/-- 'limewashlaw16.FlatGrown', WHERE WHAT IT READS IS OF BULK AT MOST 1048576: true; the input reads as it did. -/
def flatGrownUptoRow : OpenClaim := { program := "ytpbbnoggkbfkoaa", sum := "8258e53af997f62006b349b70955d09fd0318ebd1c26cf205a87bf7123246771", func := "limewash/limewashlaw16.FlatGrown", spec := "flatGrown", unfollowed := true, recurses := true, plainKeys := false, apart := false, narrowed := true }
def FlatGrownUptoSaid : Prop := flatGrownUptoRow.holds Try.pinned (OpenSpec.upto flatGrownSpec)

end Rows
end Go.Proofs.Ytpbbnoggkbfkoaa
