/- Whatever the input, TreeLost returns true, and each argument reads behind the call as it read before: no further condition. -/
import Derived.Test.YtaipcbdilkcdbaaRows
import Derived.Test.YtaipcbdilkcdbaaRg
import Derived.Test.YtaipcbdilkcdbaaVm
import Derived.ProofKit
noncomputable section
set_option linter.unusedSectionVars false
set_option linter.unusedVariables false
set_option linter.unusedSimpArgs false
namespace Go.Proofs.Ytaipcbdilkcdbaa
open Go Go.Ev Go.Proofs Go.ChangeShapes Go.WideShapes Go.ChangeAt Go.RowKit
theorem own:ownKnob Try.prog.godebug=none:=by kernel_rfl
theorem laidOut:laidOutB Try.prog=true:=by kernel_rfl
set_option maxRecDepth 100000 in
theorem treeLost_lifted (os:Os) (started:os.Started) (H:Type) (enc:TypeId×Value->H):
  ReturnsInHanded {} Try.checked os 5 .any (Rows.treeLostSpec.pre6 enc Try.prog Try.f5 Rows.treeLostRow.domain false) (Rows.treeLostSpec.post enc Try.prog Try.f5 false true false false):=by
 refine returnsInHanded_of_change (C:=Try.checked) own started (by kernel_rfl) Try.func5
  (ChangeSpec.witness6 (enc:=enc) (C:=Try.checked) false ⟨#[],#[.slice none 0 0,.int .i64 0],[]⟩ 8 (by kernel_rfl) (by kernel_rfl) (by kernel_rfl) (by kernel_rfl)) ?_
 intro W base args ds gs before hval hW _ _
 exact CO (S:=xN) aQ Jp (fun x=>(yK x).1) (fun x nm ρ=>congrArg (fun z:Bool=>AV.af ρ (vb z)) (yK x).2) (tc:= [0]) (by kernel_rfl) (fun x=>by kernel_rfl) laidOut (by kernel_rfl) rfl
  (fun H ds h=>by
   match ds,h with
   | [d0,d1],_=>rfl) (by kernel_rfl) (tb:=4) (by kernel_rfl) W base args ds gs before hval hW
theorem treeLost_holds:Rows.TreeLostSaid:=
 OpenClaim.holds_of_wide 5 Try.f5 rfl rfl rfl rfl rfl rfl rfl ⟨rfl,rfl,rfl,rfl,rfl⟩ rfl rfl rfl rfl rfl (by kernel_rfl) Try.func5 (by kernel_rfl)
  (of_decide_eq_true (by kernel_rfl)) (by unfold Func.isWrapper;first|(rw [if_pos (by decide+kernel)];kernel_rfl)|(rw [if_neg (by decide+kernel)];exact ⟨rfl,rfl⟩))
  (fun os started H enc _=>treeLost_lifted os started H enc)
#print axioms treeLost_holds
end Go.Proofs.Ytaipcbdilkcdbaa
