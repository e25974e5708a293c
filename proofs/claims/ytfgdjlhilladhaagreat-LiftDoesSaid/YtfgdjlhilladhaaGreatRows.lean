/-
  No cell of these rows narrows 'for every input' (looked for: loops, veiled, ifaces, maps, wideKeys, modest, calm, conditions, laid).
  DERIVED. THE GIVEN ROWS OF THIS SEAT. 3 by the template 'for every input the law returns true; each argument reads behind the call as it read before'; 0 by the template 'total and deterministic' (their statements: YtfgdjlhilladhaaGreatTotals.lean).
  GIVEN WITH THE SEED: the statements are not yours to turn. If you find one false, say at which input.
  Laid BY PROGRAM, IN A SANDBOX (cutbox-rows.mjs): the forced cells as the released guide's own fill.sh prints them over the translation f14d6bb965a61cd4… (all of the seat's roots in one cut). By AI agents, Wed Nov 11 2026. No macro, syntax, notation, axiom, sorry.
-/
import Derived.Test.YtfgdjlhilladhaaGreatChecked
import GoSem.Claim
import GoSem.ClaimJoined
import GoSem.ClaimMapViews
import Derived.JoinedTies
import Derived.KernelRfl
namespace Go.Proofs.YtfgdjlhilladhaaGreat
/- THE CELL 'sum', in the pinned program and in every row, IS THE sha256 OF THE DUMP (.gsa) THAT YtfgdjlhilladhaaGreatProg.lean LOADS. Nothing in Lean hashes anything: it is a label: what it is worth is what the hold of that sum in a sandbox is worth. -/
noncomputable def Tryz.pinned : Pinned := { name := "ytfgdjlhilladhaagreat", sum := "f14d6bb965a61cd4b9dbf63613c11bb404076fa904894d33ee0983462d744472", checked := Tryz.checked }
namespace Rows
def none {H : Type} : Left H := { results := [], args := [] }

/-- 'limewashlaw20.LiftDoes': WHATEVER THE INPUT: true; the input reads as it did. -/
def liftDoesSpec : ChangeSpec := { name := "liftDoes", fn := fun _ => fun
  | [d1, d2, d3, d4, d5, d6, d7] => { results := [.lit (.bool true)], args := [d1, d2, d3, d4, d5, d6, d7] }
  | _ => none }
def liftDoesRow : OpenClaim := { program := "ytfgdjlhilladhaagreat", sum := "f14d6bb965a61cd4b9dbf63613c11bb404076fa904894d33ee0983462d744472", func := "limewash/limewashlaw20.LiftDoes", spec := "liftDoes", unfollowed := true, recurses := true, apart := false }
def LiftDoesSaid : Prop := liftDoesRow.holds Tryz.pinned (OpenSpec.ofChange liftDoesSpec)

/-- ITS FALSE NEIGHBOUR: 'it returns false'. Refute it at one input. -/
def liftDoesWrong : ChangeSpec := { name := "liftDoes", fn := fun _ => fun
  | [d1, d2, d3, d4, d5, d6, d7] => { results := [.lit (.bool false)], args := [d1, d2, d3, d4, d5, d6, d7] }
  | _ => none }
def LiftDoesWrongFalsely : Prop := liftDoesRow.holds Tryz.pinned (OpenSpec.ofChange liftDoesWrong)

/-- 'limewashlaw20.LiftCorners': WHATEVER THE INPUT: true; the input reads as it did. -/
def liftCornersSpec : ChangeSpec := { name := "liftCorners", fn := fun _ => fun
  | [d1, d2] => { results := [.lit (.bool true)], args := [d1, d2] }
  | _ => none }
def liftCornersRow : OpenClaim := { program := "ytfgdjlhilladhaagreat", sum := "f14d6bb965a61cd4b9dbf63613c11bb404076fa904894d33ee0983462d744472", func := "limewash/limewashlaw20.LiftCorners", spec := "liftCorners", unfollowed := true, recurses := true, apart := false }
def LiftCornersSaid : Prop := liftCornersRow.holds Tryz.pinned (OpenSpec.ofChange liftCornersSpec)

/-- ITS FALSE NEIGHBOUR: 'it returns false'. Refute it at one input. -/
def liftCornersWrong : ChangeSpec := { name := "liftCorners", fn := fun _ => fun
  | [d1, d2] => { results := [.lit (.bool false)], args := [d1, d2] }
  | _ => none }
def LiftCornersWrongFalsely : Prop := liftCornersRow.holds Tryz.pinned (OpenSpec.ofChange liftCornersWrong)

/-- 'limewashlaw20.LiftOwners': WHATEVER THE INPUT: true; the input reads as it did. -/
def liftOwnersSpec : ChangeSpec := { name := "liftOwners", fn := fun _ => fun
  | [d1, d2] => { results := [.lit (.bool true)], args := [d1, d2] }
  | _ => none }
def liftOwnersRow : OpenClaim := { program := "ytfgdjlhilladhaagreat", sum := "f14d6bb965a61cd4b9dbf63613c11bb404076fa904894d33ee0983462d744472", func := "limewash/limewashlaw20.LiftOwners", spec := "liftOwners", unfollowed := true, recurses := true, apart := false }
def LiftOwnersSaid : Prop := liftOwnersRow.holds Tryz.pinned (OpenSpec.ofChange liftOwnersSpec)

/-- ITS FALSE NEIGHBOUR: 'it returns false'. Refute it at one input. -/
def liftOwnersWrong : ChangeSpec := { name := "liftOwners", fn := fun _ => fun
  | [d1, d2] => { results := [.lit (.bool false)], args := [d1, d2] }
  | _ => none }
def LiftOwnersWrongFalsely : Prop := liftOwnersRow.holds Tryz.pinned (OpenSpec.ofChange liftOwnersWrong)

/- THE SECOND FORM. 'bulk': how many values and letters a reading holds, each counted each time it is reached (what is shared counts as often as it is met; a slice's spare places count too). A statement '..UptoSaid' is the law's where the arguments, and the package variables that the reading takes, are together of bulk at most 1048576: NARROWER than '..Said'. Prove '..Said' where nothing that the law and all that it calls make is longer than what came in: it says more and counts as full. Else prove '..UptoSaid'. A law counts once. -/
mutual
def uptoBulk {H : Type} : DataW H → Nat
  | .lit (.string bytes) => bytes.length + 1
  | .lit _ => 1
  | .nil => 1
  | .ptr d => uptoBulk d + 1
  | .slice elems spare => uptoBulkAll elems + uptoBulkAll spare + 1
  | .agg parts => uptoBulkAll parts + 1
  | .iface _ d => uptoBulk d + 1
  | .map entries => uptoBulkEntries entries + 1
  | .held _ => 1
def uptoBulkAll {H : Type} : List (DataW H) → Nat
  | [] => 0
  | d :: r => uptoBulk d + uptoBulkAll r
def uptoBulkEntries {H : Type} : List (Lit × DataW H) → Nat
  | [] => 0
  | x :: r => uptoBulkEntry x + uptoBulkEntries r
def uptoBulkEntry {H : Type} : Lit × DataW H → Nat
  | (.string bytes, d) => bytes.length + uptoBulk d + 1
  | (_, d) => uptoBulk d + 1
 end
def uptoSmall : (H : Type) → List (DataW H) → Bool := fun _ ds => decide (uptoBulkAll ds ≤ 1048576)
def OpenSpec.upto (s : _root_.Go.ChangeSpec) : _root_.Go.OpenSpec := { _root_.Go.OpenSpec.ofChange s with cond := some uptoSmall }

/-- 'limewashlaw20.LiftDoes', WHERE WHAT IT READS IS OF BULK AT MOST 1048576: true; the input reads as it did. -/
def liftDoesUptoRow : OpenClaim := { program := "ytfgdjlhilladhaagreat", sum := "f14d6bb965a61cd4b9dbf63613c11bb404076fa904894d33ee0983462d744472", func := "limewash/limewashlaw20.LiftDoes", spec := "liftDoes", unfollowed := true, recurses := true, apart := false, narrowed := true }
def LiftDoesUptoSaid : Prop := liftDoesUptoRow.holds Tryz.pinned (OpenSpec.upto liftDoesSpec)

/-- 'limewashlaw20.LiftCorners', WHERE WHAT IT READS IS OF BULK AT MOST 1048576: true; the input reads as it did. -/
def liftCornersUptoRow : OpenClaim := { program := "ytfgdjlhilladhaagreat", sum := "f14d6bb965a61cd4b9dbf63613c11bb404076fa904894d33ee0983462d744472", func := "limewash/limewashlaw20.LiftCorners", spec := "liftCorners", unfollowed := true, recurses := true, apart := false, narrowed := true }
def LiftCornersUptoSaid : Prop := liftCornersUptoRow.holds Tryz.pinned (OpenSpec.upto liftCornersSpec)

/-- 'limewashlaw20.LiftOwners', WHERE WHAT IT READS IS OF BULK AT MOST 1048576: true; the input reads as it did. -/
def liftOwnersUptoRow : OpenClaim := { program := "ytfgdjlhilladhaagreat", sum := "f14d6bb965a61cd4b9dbf63613c11bb404076fa904894d33ee0983462d744472", func := "limewash/limewashlaw20.LiftOwners", spec := "liftOwners", unfollowed := true, recurses := true, apart := false, narrowed := true }
def LiftOwnersUptoSaid : Prop := liftOwnersUptoRow.holds Tryz.pinned (OpenSpec.upto liftOwnersSpec)

end Rows
end Go.Proofs.YtfgdjlhilladhaaGreat
