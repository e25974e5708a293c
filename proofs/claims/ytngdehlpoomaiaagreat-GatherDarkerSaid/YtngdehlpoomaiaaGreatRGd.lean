/- Whatever the input, GatherDarker returns true, and each argument reads behind the call as it read before: no further condition. -/
import Derived.Test.YtngdehlpoomaiaaGreatRows
import Derived.Test.YtngdehlpoomaiaaGreatRg
import Derived.Test.YtngdehlpoomaiaaGreatMj
import Derived.Test.YtngdehlpoomaiaaGreatRo
import Derived.ProofKit
noncomputable section
set_option linter.unusedSectionVars false
set_option linter.unusedVariables false
set_option linter.unusedSimpArgs false
namespace Go.Proofs.YtngdehlpoomaiaaGreat
open Go Go.Ev Go.Proofs Go.ChangeShapes Go.WideShapes Go.ChangeAt Go.RowKit
set_option maxRecDepth 100000 in
theorem gatherDarker_lifted (os:Os) (started:os.Started) (H:Type) (enc:TypeId×Value->H):
  ReturnsInHanded {} Tryz.checked os 4 .any (Rows.gatherDarkerSpec.pre6 enc Tryz.prog Tryz.f4 Rows.gatherDarkerRow.domain false) (Rows.gatherDarkerSpec.post enc Tryz.prog Tryz.f4 false true false false):=by
 refine returnsInHanded_of_change (C:=Tryz.checked) own started (by kernel_rfl) Tryz.func4
  (ChangeSpec.witness6 (enc:=enc) (C:=Tryz.checked) false ⟨#[],#[.slice none 0 0,.agg #[.int .i64 0,.int .i64 0,.int .i64 0,.int .i64 0,.int .i64 0,.int .i64 0,.int .i64 0,.int .i64 0,.int .i64 0],.agg #[.int .i64 0,.int .i64 0,.int .i64 0,.int .i64 0,.slice none 0 0],.agg #[.int .i64 0,.int .i64 0,.int .i64 0],.agg #[.int .i64 0,.int .i64 0,.int .i64 0],.int .i64 0],[]⟩ 8 (by kernel_rfl) (by kernel_rfl) (by kernel_rfl) (by kernel_rfl)) ?_
 intro W base args ds gs before hval hW _ _
 exact qg (S:=ux) az LK (fun x=>(w8 x).1) (fun x nm ρ=>congrArg (fun z:Bool=>AV.ae ρ (vb z)) (w8 x).2) (tc:= [0,1]) (by kernel_rfl) (fun x=>by kernel_rfl) laidOut (by kernel_rfl) rfl
  (fun H ds h=>by
   match ds,h with
   | [d0,d1,d2,d3,d4,d5],_=>rfl) (by kernel_rfl) (tb:=4) (by kernel_rfl) W base args ds gs before hval hW
theorem gatherDarker_holds:Rows.GatherDarkerSaid:=
 OpenClaim.holds_of_wide 4 Tryz.f4 rfl rfl rfl rfl rfl rfl rfl ⟨rfl,rfl,rfl,rfl,rfl⟩ rfl rfl rfl rfl rfl (by kernel_rfl) Tryz.func4 (by kernel_rfl)
  (of_decide_eq_true (by kernel_rfl)) (by unfold Func.isWrapper;first|(rw [if_pos (by decide+kernel)];kernel_rfl)|(rw [if_neg (by decide+kernel)];exact ⟨rfl,rfl⟩))
  (fun os started H enc _=>gatherDarker_lifted os started H enc)
#print axioms gatherDarker_holds
end Go.Proofs.YtngdehlpoomaiaaGreat
