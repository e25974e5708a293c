/-
  No cell of these rows narrows 'for every input' (looked for: loops, veiled, ifaces, maps, wideKeys, modest, calm, conditions, laid).
  DERIVED. THE GIVEN ROWS OF THIS SEAT. 4 by the template 'for every input the law returns true; each argument reads behind the call as it read before'; 0 by the template 'total and deterministic' (their statements: YtbjfokijjefoeaaTotals.lean).
  GIVEN WITH THE SEED: the statements are not yours to turn. If you find one false, say at which input.
  Laid BY PROGRAM, IN A SANDBOX (cutbox-rows.mjs): the forced cells as the released guide's own fill.sh prints them over the translation df8075ad8ecdad9a… (all of the seat's roots in one cut). By AI agents, Wed Nov 11 2026. No macro, syntax, notation, axiom, sorry.
-/
import Derived.Test.YtbjfokijjefoeaaChecked
import GoSem.Claim
import GoSem.ClaimJoined
import GoSem.ClaimMapViews
import Derived.JoinedTies
import Derived.KernelRfl
namespace Go.Proofs.Ytbjfokijjefoeaa
/- THE CELL 'sum', in the pinned program and in every row, IS THE sha256 OF THE DUMP (.gsa) THAT YtbjfokijjefoeaaProg.lean LOADS. Nothing in Lean hashes anything: it is a label: what it is worth is what the hold of that sum in a sandbox is worth. -/
noncomputable def Try.pinned : Pinned := { name := "ytbjfokijjefoeaa", sum := "df8075ad8ecdad9a2c3cac3e07d5e7a3778a499061ba9095703fa363f22a40b7", checked := Try.checked }
namespace Rows
def none {H : Type} : Left H := { results := [], args := [] }

/-- 'limewashlaw18.AtlasRight': WHATEVER THE INPUT: true; the input reads as it did. -/
def atlasRightSpec : ChangeSpec := { name := "atlasRight", fn := fun _ => fun
  | [d1, d2, d3, d4] => { results := [.lit (.bool true)], args := [d1, d2, d3, d4] }
  | _ => none }
def atlasRightRow : OpenClaim := { program := "ytbjfokijjefoeaa", sum := "df8075ad8ecdad9a2c3cac3e07d5e7a3778a499061ba9095703fa363f22a40b7", func := "limewash/limewashlaw18.AtlasRight", spec := "atlasRight", unfollowed := true, recurses := true, apart := false }
def AtlasRightSaid : Prop := atlasRightRow.holds Try.pinned (OpenSpec.ofChange atlasRightSpec)

/-- ITS FALSE NEIGHBOUR: 'it returns false'. Refute it at one input. -/
def atlasRightWrong : ChangeSpec := { name := "atlasRight", fn := fun _ => fun
  | [d1, d2, d3, d4] => { results := [.lit (.bool false)], args := [d1, d2, d3, d4] }
  | _ => none }
def AtlasRightWrongFalsely : Prop := atlasRightRow.holds Try.pinned (OpenSpec.ofChange atlasRightWrong)

/-- 'limewashlaw18.AtlasInside': WHATEVER THE INPUT: true; the input reads as it did. -/
def atlasInsideSpec : ChangeSpec := { name := "atlasInside", fn := fun _ => fun
  | [d] => { results := [.lit (.bool true)], args := [d] }
  | _ => none }
def atlasInsideRow : OpenClaim := { program := "ytbjfokijjefoeaa", sum := "df8075ad8ecdad9a2c3cac3e07d5e7a3778a499061ba9095703fa363f22a40b7", func := "limewash/limewashlaw18.AtlasInside", spec := "atlasInside", unfollowed := true, recurses := true, apart := false }
def AtlasInsideSaid : Prop := atlasInsideRow.holds Try.pinned (OpenSpec.ofChange atlasInsideSpec)

/-- ITS FALSE NEIGHBOUR: 'it returns false'. Refute it at one input. -/
def atlasInsideWrong : ChangeSpec := { name := "atlasInside", fn := fun _ => fun
  | [d] => { results := [.lit (.bool false)], args := [d] }
  | _ => none }
def AtlasInsideWrongFalsely : Prop := atlasInsideRow.holds Try.pinned (OpenSpec.ofChange atlasInsideWrong)

/-- 'limewashlaw18.AtlasRoom': WHATEVER THE INPUT: true; the input reads as it did. -/
def atlasRoomSpec : ChangeSpec := { name := "atlasRoom", fn := fun _ => fun
  | [d1, d2, d3, d4] => { results := [.lit (.bool true)], args := [d1, d2, d3, d4] }
  | _ => none }
def atlasRoomRow : OpenClaim := { program := "ytbjfokijjefoeaa", sum := "df8075ad8ecdad9a2c3cac3e07d5e7a3778a499061ba9095703fa363f22a40b7", func := "limewash/limewashlaw18.AtlasRoom", spec := "atlasRoom", unfollowed := true, recurses := true, apart := false }
def AtlasRoomSaid : Prop := atlasRoomRow.holds Try.pinned (OpenSpec.ofChange atlasRoomSpec)

/-- ITS FALSE NEIGHBOUR: 'it returns false'. Refute it at one input. -/
def atlasRoomWrong : ChangeSpec := { name := "atlasRoom", fn := fun _ => fun
  | [d1, d2, d3, d4] => { results := [.lit (.bool false)], args := [d1, d2, d3, d4] }
  | _ => none }
def AtlasRoomWrongFalsely : Prop := atlasRoomRow.holds Try.pinned (OpenSpec.ofChange atlasRoomWrong)

/-- 'limewashlaw18.AtlasOrder': WHATEVER THE INPUT: true; the input reads as it did. -/
def atlasOrderSpec : ChangeSpec := { name := "atlasOrder", fn := fun _ => fun
  | [d] => { results := [.lit (.bool true)], args := [d] }
  | _ => none }
def atlasOrderRow : OpenClaim := { program := "ytbjfokijjefoeaa", sum := "df8075ad8ecdad9a2c3cac3e07d5e7a3778a499061ba9095703fa363f22a40b7", func := "limewash/limewashlaw18.AtlasOrder", spec := "atlasOrder", unfollowed := true, recurses := true, apart := false }
def AtlasOrderSaid : Prop := atlasOrderRow.holds Try.pinned (OpenSpec.ofChange atlasOrderSpec)

/-- ITS FALSE NEIGHBOUR: 'it returns false'. Refute it at one input. -/
def atlasOrderWrong : ChangeSpec := { name := "atlasOrder", fn := fun _ => fun
  | [d] => { results := [.lit (.bool false)], args := [d] }
  | _ => none }
def AtlasOrderWrongFalsely : Prop := atlasOrderRow.holds Try.pinned (OpenSpec.ofChange atlasOrderWrong)

/- THE SECOND FORM. 'bulk': how many values and letters a reading holds, each counted each time it is reached (what is shared counts as often as it is met; a slice's spare places count too). A statement '..UptoSaid' is the law's where the arguments, and the package variables that the reading takes, are together of bulk at most 1048576: NARROWER than '..Said'. Prove '..Said' where nothing that the law and all that it calls make is longer than what came in: it says more and counts as full. Else prove '..UptoSaid'. A law counts once. -/
mutual
def uptoBulk {H : Type} : DataW H → Nat
  | .lit (.string bytes) => bytes.length + 1
  | .lit _ => 1
  | .nil => 1
  | .ptr d => uptoBulk d + 1
  | .slice elems spare => uptoBulkAll elems + uptoBulkAll spare + 1
  | .agg parts => uptoBulkAll parts + 1
  | .iface _ d => uptoBulk d + 1
  | .map entries => uptoBulkEntries entries + 1
  | .held _ => 1
def uptoBulkAll {H : Type} : List (DataW H) → Nat
  | [] => 0
  | d :: r => uptoBulk d + uptoBulkAll r
def uptoBulkEntries {H : Type} : List (Lit × DataW H) → Nat
  | [] => 0
  | x :: r => uptoBulkEntry x + uptoBulkEntries r
def uptoBulkEntry {H : Type} : Lit × DataW H → Nat
  | (.string bytes, d) => bytes.length + uptoBulk d + 1
  | (_, d) => uptoBulk d + 1
 end
def uptoSmall : (H : Type) → List (DataW H) → Bool := fun _ ds => decide (uptoBulkAll ds ≤ 1048576)
def OpenSpec.upto (s : _root_.Go.ChangeSpec) : _root_.Go.OpenSpec := { _root_.Go.OpenSpec.ofChange s with cond := some uptoSmall }

/-- 'limewashlaw18.AtlasRight', WHERE WHAT IT READS IS OF BULK AT MOST 1048576: true; the input reads as it did. -/
def atlasRightUptoRow : OpenClaim := { program := "ytbjfokijjefoeaa", sum := "df8075ad8ecdad9a2c3cac3e07d5e7a3778a499061ba9095703fa363f22a40b7", func := "limewash/limewashlaw18.AtlasRight", spec := "atlasRight", unfollowed := true, recurses := true, apart := false, narrowed := true }
def AtlasRightUptoSaid : Prop := atlasRightUptoRow.holds Try.pinned (OpenSpec.upto atlasRightSpec)

/-- 'limewashlaw18.AtlasInside', WHERE WHAT IT READS IS OF BULK AT MOST 1048576: true; the input reads as it did. -/
def atlasInsideUptoRow : OpenClaim := { program := "ytbjfokijjefoeaa", sum := "df8075ad8ecdad9a2c3cac3e07d5e7a3778a499061ba9095703fa363f22a40b7", func := "limewash/limewashlaw18.AtlasInside", spec := "atlasInside", unfollowed := true, recurses := true, apart := false, narrowed := true }
def AtlasInsideUptoSaid : Prop := atlasInsideUptoRow.holds Try.pinned (OpenSpec.upto atlasInsideSpec)

/-- 'limewashlaw18.AtlasRoom', WHERE WHAT IT READS IS OF BULK AT MOST 1048576: true; the input reads as it did. -/
def atlasRoomUptoRow : OpenClaim := { program := "ytbjfokijjefoeaa", sum := "df8075ad8ecdad9a2c3cac3e07d5e7a3778a499061ba9095703fa363f22a40b7", func := "limewash/limewashlaw18.AtlasRoom", spec := "atlasRoom", unfollowed := true, recurses := true, apart := false, narrowed := true }
def AtlasRoomUptoSaid : Prop := atlasRoomUptoRow.holds Try.pinned (OpenSpec.upto atlasRoomSpec)

/-- 'limewashlaw18.AtlasOrder', WHERE WHAT IT READS IS OF BULK AT MOST 1048576: true; the input reads as it did. -/
def atlasOrderUptoRow : OpenClaim := { program := "ytbjfokijjefoeaa", sum := "df8075ad8ecdad9a2c3cac3e07d5e7a3778a499061ba9095703fa363f22a40b7", func := "limewash/limewashlaw18.AtlasOrder", spec := "atlasOrder", unfollowed := true, recurses := true, apart := false, narrowed := true }
def AtlasOrderUptoSaid : Prop := atlasOrderUptoRow.holds Try.pinned (OpenSpec.upto atlasOrderSpec)

end Rows
end Go.Proofs.Ytbjfokijjefoeaa
