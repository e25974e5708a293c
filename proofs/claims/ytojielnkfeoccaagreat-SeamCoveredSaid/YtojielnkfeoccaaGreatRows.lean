/-
  No cell of these rows narrows 'for every input' (looked for: loops, veiled, ifaces, maps, wideKeys, modest, calm, conditions, laid).
  DERIVED. THE GIVEN ROWS OF THIS SEAT. 4 by the template 'for every input the law returns true; each argument reads behind the call as it read before'; 0 by the template 'total and deterministic' (their statements: YtojielnkfeoccaaGreatTotals.lean).
  GIVEN WITH THE SEED: the statements are not yours to turn. If you find one false, say at which input.
  Laid BY PROGRAM, IN A SANDBOX (cutbox-rows.mjs): the forced cells as the released guide's own fill.sh prints them over the translation b0076b1378eaf667… (all of the seat's roots in one cut). By AI agents, Wed Nov 11 2026. No macro, syntax, notation, axiom, sorry.
-/
import Derived.Test.YtojielnkfeoccaaGreatChecked
import GoSem.Claim
import GoSem.ClaimJoined
import GoSem.ClaimMapViews
import Derived.JoinedTies
import Derived.KernelRfl
namespace Go.Proofs.YtojielnkfeoccaaGreat
/- THE CELL 'sum', in the pinned program and in every row, IS THE sha256 OF THE DUMP (.gsa) THAT YtojielnkfeoccaaGreatProg.lean LOADS. Nothing in Lean hashes anything: it is a label: what it is worth is what the hold of that sum in a sandbox is worth. -/
noncomputable def Tryz.pinned : Pinned := { name := "ytojielnkfeoccaagreat", sum := "b0076b1378eaf66741d65ac5c67e282d2ea4ee7e47fc2a6eaa2698f234a9fed3", checked := Tryz.checked }
namespace Rows
def none {H : Type} : Left H := { results := [], args := [] }

/-- 'limewashlaw27.SeamBetween': WHATEVER THE INPUT: true; the input reads as it did. -/
def seamBetweenSpec : ChangeSpec := { name := "seamBetween", fn := fun _ => fun
  | [d1, d2, d3] => { results := [.lit (.bool true)], args := [d1, d2, d3] }
  | _ => none }
def seamBetweenRow : OpenClaim := { program := "ytojielnkfeoccaagreat", sum := "b0076b1378eaf66741d65ac5c67e282d2ea4ee7e47fc2a6eaa2698f234a9fed3", func := "limewash/limewashlaw27.SeamBetween", spec := "seamBetween", unfollowed := true, recurses := true, plainKeys := false, apart := false }
def SeamBetweenSaid : Prop := seamBetweenRow.holds Tryz.pinned (OpenSpec.ofChange seamBetweenSpec)

/-- ITS FALSE NEIGHBOUR: 'it returns false'. Refute it at one input. -/
def seamBetweenWrong : ChangeSpec := { name := "seamBetween", fn := fun _ => fun
  | [d1, d2, d3] => { results := [.lit (.bool false)], args := [d1, d2, d3] }
  | _ => none }
def SeamBetweenWrongFalsely : Prop := seamBetweenRow.holds Tryz.pinned (OpenSpec.ofChange seamBetweenWrong)

/-- 'limewashlaw27.SeamRound': WHATEVER THE INPUT: true; the input reads as it did. -/
def seamRoundSpec : ChangeSpec := { name := "seamRound", fn := fun _ => fun
  | [d1, d2, d3] => { results := [.lit (.bool true)], args := [d1, d2, d3] }
  | _ => none }
def seamRoundRow : OpenClaim := { program := "ytojielnkfeoccaagreat", sum := "b0076b1378eaf66741d65ac5c67e282d2ea4ee7e47fc2a6eaa2698f234a9fed3", func := "limewash/limewashlaw27.SeamRound", spec := "seamRound", unfollowed := true, recurses := true, plainKeys := false, apart := false }
def SeamRoundSaid : Prop := seamRoundRow.holds Tryz.pinned (OpenSpec.ofChange seamRoundSpec)

/-- ITS FALSE NEIGHBOUR: 'it returns false'. Refute it at one input. -/
def seamRoundWrong : ChangeSpec := { name := "seamRound", fn := fun _ => fun
  | [d1, d2, d3] => { results := [.lit (.bool false)], args := [d1, d2, d3] }
  | _ => none }
def SeamRoundWrongFalsely : Prop := seamRoundRow.holds Tryz.pinned (OpenSpec.ofChange seamRoundWrong)

/-- 'limewashlaw27.SeamAlong': WHATEVER THE INPUT: true; the input reads as it did. -/
def seamAlongSpec : ChangeSpec := { name := "seamAlong", fn := fun _ => fun
  | [d1, d2, d3] => { results := [.lit (.bool true)], args := [d1, d2, d3] }
  | _ => none }
def seamAlongRow : OpenClaim := { program := "ytojielnkfeoccaagreat", sum := "b0076b1378eaf66741d65ac5c67e282d2ea4ee7e47fc2a6eaa2698f234a9fed3", func := "limewash/limewashlaw27.SeamAlong", spec := "seamAlong", unfollowed := true, recurses := true, plainKeys := false, apart := false }
def SeamAlongSaid : Prop := seamAlongRow.holds Tryz.pinned (OpenSpec.ofChange seamAlongSpec)

/-- ITS FALSE NEIGHBOUR: 'it returns false'. Refute it at one input. -/
def seamAlongWrong : ChangeSpec := { name := "seamAlong", fn := fun _ => fun
  | [d1, d2, d3] => { results := [.lit (.bool false)], args := [d1, d2, d3] }
  | _ => none }
def SeamAlongWrongFalsely : Prop := seamAlongRow.holds Tryz.pinned (OpenSpec.ofChange seamAlongWrong)

/-- 'limewashlaw27.SeamCovered': WHATEVER THE INPUT: true; the input reads as it did. -/
def seamCoveredSpec : ChangeSpec := { name := "seamCovered", fn := fun _ => fun
  | [d1, d2] => { results := [.lit (.bool true)], args := [d1, d2] }
  | _ => none }
def seamCoveredRow : OpenClaim := { program := "ytojielnkfeoccaagreat", sum := "b0076b1378eaf66741d65ac5c67e282d2ea4ee7e47fc2a6eaa2698f234a9fed3", func := "limewash/limewashlaw27.SeamCovered", spec := "seamCovered", unfollowed := true, recurses := true, plainKeys := false, apart := false }
def SeamCoveredSaid : Prop := seamCoveredRow.holds Tryz.pinned (OpenSpec.ofChange seamCoveredSpec)

/-- ITS FALSE NEIGHBOUR: 'it returns false'. Refute it at one input. -/
def seamCoveredWrong : ChangeSpec := { name := "seamCovered", fn := fun _ => fun
  | [d1, d2] => { results := [.lit (.bool false)], args := [d1, d2] }
  | _ => none }
def SeamCoveredWrongFalsely : Prop := seamCoveredRow.holds Tryz.pinned (OpenSpec.ofChange seamCoveredWrong)

/- THE SECOND FORM. 'bulk': how many values and letters a reading holds, each counted each time it is reached (what is shared counts as often as it is met; a slice's spare places count too). A statement '..UptoSaid' is the law's where the arguments, and the package variables that the reading takes, are together of bulk at most 1048576: NARROWER than '..Said'. Prove '..Said' where nothing that the law and all that it calls make is longer than what came in: it says more and counts as full. Else prove '..UptoSaid'. A law counts once. -/
mutual
def uptoBulk {H : Type} : DataW H → Nat
  | .lit (.string bytes) => bytes.length + 1
  | .lit _ => 1
  | .nil => 1
  | .ptr d => uptoBulk d + 1
  | .slice elems spare => uptoBulkAll elems + uptoBulkAll spare + 1
  | .agg parts => uptoBulkAll parts + 1
  | .iface _ d => uptoBulk d + 1
  | .map entries => uptoBulkEntries entries + 1
  | .held _ => 1
def uptoBulkAll {H : Type} : List (DataW H) → Nat
  | [] => 0
  | d :: r => uptoBulk d + uptoBulkAll r
def uptoBulkEntries {H : Type} : List (Lit × DataW H) → Nat
  | [] => 0
  | x :: r => uptoBulkEntry x + uptoBulkEntries r
def uptoBulkEntry {H : Type} : Lit × DataW H → Nat
  | (.string bytes, d) => bytes.length + uptoBulk d + 1
  | (_, d) => uptoBulk d + 1
 end
def uptoSmall : (H : Type) → List (DataW H) → Bool := fun _ ds => decide (uptoBulkAll ds ≤ 1048576)
def OpenSpec.upto (s : _root_.Go.ChangeSpec) : _root_.Go.OpenSpec := { _root_.Go.OpenSpec.ofChange s with cond := some uptoSmall }

/-- 'limewashlaw27.SeamBetween', WHERE WHAT IT READS IS OF BULK AT MOST 1048576: true; the input reads as it did. -/
def seamBetweenUptoRow : OpenClaim := { program := "ytojielnkfeoccaagreat", sum := "b0076b1378eaf66741d65ac5c67e282d2ea4ee7e47fc2a6eaa2698f234a9fed3", func := "limewash/limewashlaw27.SeamBetween", spec := "seamBetween", unfollowed := true, recurses := true, plainKeys := false, apart := false, narrowed := true }
def SeamBetweenUptoSaid : Prop := seamBetweenUptoRow.holds Tryz.pinned (OpenSpec.upto seamBetweenSpec)

/-- 'limewashlaw27.SeamRound', WHERE WHAT IT READS IS OF BULK AT MOST 1048576: true; the input reads as it did. -/
def seamRoundUptoRow : OpenClaim := { program := "ytojielnkfeoccaagreat", sum := "b0076b1378eaf66741d65ac5c67e282d2ea4ee7e47fc2a6eaa2698f234a9fed3", func := "limewash/limewashlaw27.SeamRound", spec := "seamRound", unfollowed := true, recurses := true, plainKeys := false, apart := false, narrowed := true }
def SeamRoundUptoSaid : Prop := seamRoundUptoRow.holds Tryz.pinned (OpenSpec.upto seamRoundSpec)

/-- 'limewashlaw27.SeamAlong', WHERE WHAT IT READS IS OF BULK AT MOST 1048576: true; the input reads as it did. -/
def seamAlongUptoRow : OpenClaim := { program := "ytojielnkfeoccaagreat", sum := "b0076b1378eaf66741d65ac5c67e282d2ea4ee7e47fc2a6eaa2698f234a9fed3", func := "limewash/limewashlaw27.SeamAlong", spec := "seamAlong", unfollowed := true, recurses := true, plainKeys := false, apart := false, narrowed := true }
def SeamAlongUptoSaid : Prop := seamAlongUptoRow.holds Tryz.pinned (OpenSpec.upto seamAlongSpec)

/-- 'limewashlaw27.SeamCovered', WHERE WHAT IT READS IS OF BULK AT MOST 1048576: true; the input reads as it did. -/
def seamCoveredUptoRow : OpenClaim := { program := "ytojielnkfeoccaagreat", sum := "b0076b1378eaf66741d65ac5c67e282d2ea4ee7e47fc2a6eaa2698f234a9fed3", func := "limewash/limewashlaw27.SeamCovered", spec := "seamCovered", unfollowed := true, recurses := true, plainKeys := false, apart := false, narrowed := true }
def SeamCoveredUptoSaid : Prop := seamCoveredUptoRow.holds Tryz.pinned (OpenSpec.upto seamCoveredSpec)

end Rows
end Go.Proofs.YtojielnkfeoccaaGreat
