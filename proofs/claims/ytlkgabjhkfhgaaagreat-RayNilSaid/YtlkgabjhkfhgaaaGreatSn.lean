/- Model of RayNil. -/
import Derived.Test.YtlkgabjhkfhgaaaGreatSe
noncomputable section
set_option linter.unusedSectionVars false
set_option linter.unusedVariables false
set_option linter.unusedSimpArgs false
namespace Go.Proofs.YtlkgabjhkfhgaaaGreat
open Go Go.Ev Go.Proofs
def Jc:List (Nat×Ev.Spec):=(21,av b6)::tp
theorem m8:ah Tryz.prog Jc:=ah.add (fn:=Tryz.f21) (by kernel_rfl) yA qf
def On:Hp Tryz.prog:=⟨_,(aA.walk aC m8 mixed 16 (fn:=Tryz.f16) (by kernel_rfl) (aA.nil _ _) fun ys hy=>aB.nil)⟩
def Oo:Hp Tryz.prog:=⟨_,(aA.walk aC m8 mixed 18 (fn:=Tryz.f18) (by kernel_rfl) On.ok fun ys hy=>aB.nil)⟩
def KS (x:(I3×I3)):Bool:=
 (ai (cU false) fun y=>
 (if (y=true) then
 true else
 false))
def BA (x:(I3×I3)):Prop:=
 (bE false)
def Rn (x:(I3×I3)):Tr Bool true:=
 (.Dp
 (.pn 0 2
 (.Dp
 (.pn 1 5
 (.fn b6 false fun y=>
 (.fu y
 (.ret true)
 (.ret false)))))))
abbrev By:dS:=⟨(.pair (.agg bz) (.agg bz)),(.one Ty.bool),BA,KS⟩
theorem Oq:ak Tryz.prog 7 (av By):=ak.tr By Rn (fn:=Tryz.f7) aC m8 mixed (by kernel_rfl) Oo.ok (fun x=>aB.nil) (fun x=>(by kernel_rfl)) fun x Q=>(by kernel_rfl)
end Go.Proofs.YtlkgabjhkfhgaaaGreat
