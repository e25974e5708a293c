/- Whatever the input, GatherDoes returns true, and each argument reads behind the call as it read before: no further condition. -/
import Derived.Test.YtngdehlpoomaiaaGreatRows
import Derived.Test.YtngdehlpoomaiaaGreatRg
import Derived.Test.YtngdehlpoomaiaaGreatRo
import Derived.ProofKit
noncomputable section
set_option linter.unusedSectionVars false
set_option linter.unusedVariables false
set_option linter.unusedSimpArgs false
namespace Go.Proofs.YtngdehlpoomaiaaGreat
open Go Go.Ev Go.Proofs Go.ChangeShapes Go.WideShapes Go.ChangeAt Go.RowKit
set_option maxRecDepth 100000 in
theorem gatherDoes_lifted (os:Os) (started:os.Started) (H:Type) (enc:TypeId×Value->H):
  ReturnsInHanded {} Tryz.checked os 7 .any (Rows.gatherDoesSpec.pre6 enc Tryz.prog Tryz.f7 Rows.gatherDoesRow.domain false) (Rows.gatherDoesSpec.post enc Tryz.prog Tryz.f7 false true false false):=by
 refine returnsInHanded_of_change (C:=Tryz.checked) own started (by kernel_rfl) Tryz.func7
  (ChangeSpec.witness6 (enc:=enc) (C:=Tryz.checked) false ⟨#[],#[.slice none 0 0,.agg #[.int .i64 0,.int .i64 0,.int .i64 0,.int .i64 0,.slice none 0 0],.agg #[.int .i64 0,.int .i64 0,.int .i64 0],.agg #[.int .i64 0,.int .i64 0,.int .i64 0],.slice none 0 0],[]⟩ 8 (by kernel_rfl) (by kernel_rfl) (by kernel_rfl) (by kernel_rfl)) ?_
 intro W base args ds gs before hval hW _ _
 exact Ot (S:=Gl) bt ZP (fun x=>(HF x).1) (fun x nm ρ=>congrArg (fun z:Bool=>AV.ae ρ (vb z)) (HF x).2) (tc:= [0,1,2]) (by kernel_rfl) (fun x=>by kernel_rfl) laidOut (by kernel_rfl) rfl
  (fun H ds h=>by
   match ds,h with
   | [d0,d1,d2,d3,d4],_=>rfl) (by kernel_rfl) (tb:=4) (by kernel_rfl) W base args ds gs before hval hW
theorem gatherDoes_holds:Rows.GatherDoesSaid:=
 OpenClaim.holds_of_wide 7 Tryz.f7 rfl rfl rfl rfl rfl rfl rfl ⟨rfl,rfl,rfl,rfl,rfl⟩ rfl rfl rfl rfl rfl (by kernel_rfl) Tryz.func7 (by kernel_rfl)
  (of_decide_eq_true (by kernel_rfl)) (by unfold Func.isWrapper;first|(rw [if_pos (by decide+kernel)];kernel_rfl)|(rw [if_neg (by decide+kernel)];exact ⟨rfl,rfl⟩))
  (fun os started H enc _=>gatherDoes_lifted os started H enc)
#print axioms gatherDoes_holds
end Go.Proofs.YtngdehlpoomaiaaGreat
