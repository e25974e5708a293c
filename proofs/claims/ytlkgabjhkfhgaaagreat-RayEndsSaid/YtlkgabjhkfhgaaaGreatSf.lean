/- Model of RayEnds. -/
import Derived.Test.YtlkgabjhkfhgaaaGreatSe
noncomputable section
set_option linter.unusedSectionVars false
set_option linter.unusedVariables false
set_option linter.unusedSimpArgs false
namespace Go.Proofs.YtlkgabjhkfhgaaaGreat
open Go Go.Ev Go.Proofs
def Gp (x:((List I9)×(I3×((List I3)×(List I3))))):Bool:=
 (if ((x.1.length:Int)>(16:Int)) then
 true else
 (if ((x.2.2.1.length:Int)>(20:Int)) then
 true else
 (if ((x.2.2.2.length:Int)>(20:Int)) then
 true else
 (ai (iK (x.1,(x.2.1,x.2.2.1))) fun y=>
 (ai (iK (x.1,(x.2.1,x.2.2.2))) fun aq=>
 (ai (iK (x.1,(x.2.1,(([]++x.2.2.1)++x.2.2.2)))) fun y_2=>
 (if ((y.2 !=(0:Int))=true) then
 (ai (cU false) fun au=>
 (if (au=true) then
 (if ((y_2.2 !=(0:Int))=true) then
 (y_2.1==(0:Int)) else
 false) else
 false)) else
 (if ((aq.2 !=(0:Int))=true) then
 (ai (cU false) fun au=>
 (if (au=true) then
 (if ((y_2.2 !=(0:Int))=true) then
 (y_2.1==(0:Int)) else
 false) else
 false)) else
 (ai (cU false) fun au=>
 (if (au=true) then
 (if ((y_2.2==(0:Int))=true) then
 (if ((y_2.1==(ae (y.1+aq.1)))=true) then
 (if (y.1>=(0:Int)) then
 (decide (y.1<=(x.2.2.1.length:Int))) else
 false) else
 false) else
 false) else
 false))))))))))
def rH (x:((List I9)×(I3×((List I3)×(List I3))))):Prop:=
 (¬((x.1.length:Int)>(16:Int))->
 (¬((x.2.2.1.length:Int)>(20:Int))->
 (¬((x.2.2.2.length:Int)>(20:Int))->
 (((0+(List.length x.2.2.1))<1099511627776)/\
 ((((List.length ([]++x.2.2.1))+(List.length x.2.2.2))<1099511627776)/\
 ((fg (x.1,(x.2.1,x.2.2.1)))/\
 az (iK (x.1,(x.2.1,x.2.2.1))) fun y=>
 ((fg (x.1,(x.2.1,x.2.2.2)))/\
 az (iK (x.1,(x.2.1,x.2.2.2))) fun aq=>
 ((fg (x.1,(x.2.1,(([]++x.2.2.1)++x.2.2.2))))/\
 az (iK (x.1,(x.2.1,(([]++x.2.2.1)++x.2.2.2)))) fun y_2=>
 ((((y.2 !=(0:Int))=true)->
 (bE false))/\
 (¬((y.2 !=(0:Int))=true)->
 ((((aq.2 !=(0:Int))=true)->
 (bE false))/\
 (¬((aq.2 !=(0:Int))=true)->
 (bE false)))))))))))))
def Ol (x:((List I9)×(I3×((List I3)×(List I3))))):Tr Bool true:=
 (.Di ((nL x.1)>(16:Int))
 (.ret true)
 (.Di ((nL x.2.2.1)>(20:Int))
 (.ret true)
 (.Di ((nL x.2.2.2)>(20:Int))
 (.ret true)
 (.od ((0+(List.length x.2.2.1))<1099511627776)
 (.od (((List.length ([]++x.2.2.1))+(List.length x.2.2.2))<1099511627776)
 (.fn jF (x.1,(x.2.1,x.2.2.1)) fun y=>
 (.fn jF (x.1,(x.2.1,x.2.2.2)) fun aq=>
 (.fn jF (x.1,(x.2.1,(([]++x.2.2.1)++x.2.2.2))) fun y_2=>
 (.qq (y.2 !=z0)
 (.fn b6 false fun au=>
 (.fu au
 (.fu (y_2.2 !=z0)
 (.ret (y_2.1==z0))
 (.ret false))
 (.ret false)))
 (.qq (aq.2 !=z0)
 (.fn b6 false fun au=>
 (.fu au
 (.fu (y_2.2 !=z0)
 (.ret (y_2.1==z0))
 (.ret false))
 (.ret false)))
 (.fn b6 false fun au=>
 (.fu au
 (.fu (y_2.2==z0)
 (.fu (y_2.1==(ae (y.1+aq.1)))
 (.tu (y.1>=z0)
 (.ret (decide (y.1<=(nL x.2.2.1))))
 (.ret false))
 (.ret false))
 (.ret false))
 (.ret false)))))))))))))
abbrev xT:dS:=⟨(.pair (.one (Ty.sl bP)) (.pair (.agg bz) (.pair (.one (Ty.sl bz)) (.one (Ty.sl bz))))),(.one Ty.bool),rH,Gp⟩
theorem KQ:ak Tryz.prog 6 (av xT):=ak.tr xT Ol (fn:=Tryz.f6) aC dh mixed (by kernel_rfl) (aA.nil _ _) (fun x=>aB.nil) (fun x=>(by kernel_rfl)) fun x Q=>(by kernel_rfl)
end Go.Proofs.YtlkgabjhkfhgaaaGreat
