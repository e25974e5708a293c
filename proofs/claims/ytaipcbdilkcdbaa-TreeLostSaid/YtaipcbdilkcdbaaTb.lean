/- Sorting: the function that calls itself. -/
import Derived.Test.YtaipcbdilkcdbaaTa
noncomputable section
set_option linter.unusedSectionVars false
set_option linter.unusedVariables false
set_option linter.unusedSimpArgs false
namespace Go.Proofs.Ytaipcbdilkcdbaa
open Go Go.Ev Go.Proofs
abbrev PL:lV:= .pair (.row (.int .i64)) (.pair (.val (.one (.int .i64))) (.pair (.val (.one (.int .i64))) (.pair (.val (.one (.int .i64))) (.val uc))))
class pQ where
 pre:List Int×Int×Int×Int×RT->Prop
 f:List Int×Int×Int×Int×RT->Bool×List Int×Bool×Bool×Bool×Bool
 ok:av Try.prog 51 (bC ⟨PL,.none,pre,f⟩)
section
variable [pQ]
def cN (x:List Int×Int×Int×Int×RT):Bool×List Int×Bool×Bool×Bool×Bool:=pQ.f x
def aK (x:List Int×Int×Int×Int×RT):Prop:=pQ.pre x
abbrev bk:Cz:=⟨PL,.none,aK,cN⟩
theorem Sb:av Try.prog 51 (bC bk):=pQ.ok
def Lf:List (Nat×Ev.Spec):=(51,bC bk)::Cd
theorem Ce:ah Try.prog Lf:=ah.add (fn:=Try.f51) (by kernel_rfl) Sb ze
def kL (x:((List Int)×(Int×(Int×(Int×((List I9)×Int)))))):aS:=⟨[.env],⟨ej 148 0 [(0,.v (.one (.full 0))),(1,.v (.one (.i .i64))),(2,.v (.one (.i .i64))),(3,.v (.one (.i .i64))),(4,.v (.one (.mv 37 true [.full 1,.ext]))),(10,.v (.one (.b))),(11,.v (.one (.b)))],[.row yi 1,.row cH 0,.de 2],3,none,[8],[3,7],[6,0,1,2,4,5],[(.l yi),.i,.i,.i,.b,.b],[.v (.int .i64 x.2.2.2.2.2),.l cH x.2.2.2.2.1]⟩,[⟨.ret,.ret,⟨ej 148 0 [],[.row yi 1,.row cH 0,.de 2],3,none,[2],[1],[0],[(.l yi)],[.l cH x.2.2.2.2.1]⟩⟩]⟩
def c6 (x:((List Int)×(Int×(Int×(Int×((List I9)×Int)))))) (s:((List Int)×(Int×(Int×(Int×(Bool×Bool)))))):((List Int)×(Int×(Int×(Int×(Bool×Bool)))))⊕(List Int):=
 (if ((ae (s.2.2.1- s.2.1))<=(12:Int)) then
 (ai (Jh (s.1,(s.2.1,(s.2.2.1,x.2.2.2.2)))) fun y=>
 (Sum.inr (y.2.1))) else
 (if ((s.2.2.2.1==(0:Int))=true) then
 (ai (AU (s.1,(s.2.1,(s.2.2.1,x.2.2.2.2)))) fun y=>
 (Sum.inr (y.2.1))) else
 (if ((!s.2.2.2.2.1)=true) then
 (ai (FY (s.1,(s.2.1,(s.2.2.1,x.2.2.2.2)))) fun y=>
 (ai (zF (y.2.1,(s.2.1,(s.2.2.1,x.2.2.2.2)))) fun aq=>
 (if ((aq.2==(2:Int))=true) then
 (ai (CT (y.2.1,(s.2.1,(s.2.2.1,x.2.2.2.2)))) fun y_2=>
 (if (s.2.2.2.2.1=true) then
 (if (s.2.2.2.2.2=true) then
 (ai (lN (y_2.2.1,(s.2.1,(s.2.2.1,x.2.2.2.2)))) fun au=>
 (if (au.1=true) then
 (Sum.inr (au.2.1)) else
 (if (s.2.1>(0:Int)) then
 (ai (j8 (x.2.2.2.2,((List.getD au.2.1 (Int.toNat (ae (s.2.1- (1:Int)))) (0:Int)),(List.getD au.2.1 (Int.toNat (ae ((ae (s.2.2.1- (1:Int)))- (ae (aq.1- s.2.1))))) (0:Int))))) fun aR=>
 (if ((!(decide (aR<(0:Int))))=true) then
 (ai (ef (au.2.1,(s.2.1,(s.2.2.1,((ae ((ae (s.2.2.1- (1:Int)))- (ae (aq.1- s.2.1)))),x.2.2.2.2))))) fun cA=>
 (Sum.inl (cA.2.1,(cA.1,(s.2.2.1,((ae (s.2.2.2.1- (1:Int))),(s.2.2.2.2.1,s.2.2.2.2.2))))))) else
 (ai (bA (au.2.1,(s.2.1,(s.2.2.1,((ae ((ae (s.2.2.1- (1:Int)))- (ae (aq.1- s.2.1)))),x.2.2.2.2))))) fun cA=>
 (if ((ae (cA.1.1- s.2.1))<(ae (s.2.2.1- cA.1.1))) then
 (ai (cN (cA.2.1,(s.2.1,(cA.1.1,((ae (s.2.2.2.1- (1:Int))),x.2.2.2.2))))) fun Ic=>
 (Sum.inl (Ic.2.1,((ae (cA.1.1+(1:Int))),(s.2.2.1,((ae (s.2.2.2.1- (1:Int))),((decide ((ae (cA.1.1- s.2.1))>=(ae (Int.tdiv (ae (s.2.2.1- s.2.1)) (8:Int))))),cA.1.2))))))) else
 (ai (cN (cA.2.1,((ae (cA.1.1+(1:Int))),(s.2.2.1,((ae (s.2.2.2.1- (1:Int))),x.2.2.2.2))))) fun Ic=>
 (Sum.inl (Ic.2.1,(s.2.1,(cA.1.1,((ae (s.2.2.2.1- (1:Int))),((decide ((ae (s.2.2.1- cA.1.1))>=(ae (Int.tdiv (ae (s.2.2.1- s.2.1)) (8:Int))))),cA.1.2))))))))))) else
 (ai (bA (au.2.1,(s.2.1,(s.2.2.1,((ae ((ae (s.2.2.1- (1:Int)))- (ae (aq.1- s.2.1)))),x.2.2.2.2))))) fun aR=>
 (if ((ae (aR.1.1- s.2.1))<(ae (s.2.2.1- aR.1.1))) then
 (ai (cN (aR.2.1,(s.2.1,(aR.1.1,((ae (s.2.2.2.1- (1:Int))),x.2.2.2.2))))) fun cA=>
 (Sum.inl (cA.2.1,((ae (aR.1.1+(1:Int))),(s.2.2.1,((ae (s.2.2.2.1- (1:Int))),((decide ((ae (aR.1.1- s.2.1))>=(ae (Int.tdiv (ae (s.2.2.1- s.2.1)) (8:Int))))),aR.1.2))))))) else
 (ai (cN (aR.2.1,((ae (aR.1.1+(1:Int))),(s.2.2.1,((ae (s.2.2.2.1- (1:Int))),x.2.2.2.2))))) fun cA=>
 (Sum.inl (cA.2.1,(s.2.1,(aR.1.1,((ae (s.2.2.2.1- (1:Int))),((decide ((ae (s.2.2.1- aR.1.1))>=(ae (Int.tdiv (ae (s.2.2.1- s.2.1)) (8:Int))))),aR.1.2)))))))))))) else
 (if (s.2.1>(0:Int)) then
 (ai (j8 (x.2.2.2.2,((List.getD y_2.2.1 (Int.toNat (ae (s.2.1- (1:Int)))) (0:Int)),(List.getD y_2.2.1 (Int.toNat (ae ((ae (s.2.2.1- (1:Int)))- (ae (aq.1- s.2.1))))) (0:Int))))) fun au=>
 (if ((!(decide (au<(0:Int))))=true) then
 (ai (ef (y_2.2.1,(s.2.1,(s.2.2.1,((ae ((ae (s.2.2.1- (1:Int)))- (ae (aq.1- s.2.1)))),x.2.2.2.2))))) fun aR=>
 (Sum.inl (aR.2.1,(aR.1,(s.2.2.1,((ae (s.2.2.2.1- (1:Int))),(s.2.2.2.2.1,s.2.2.2.2.2))))))) else
 (ai (bA (y_2.2.1,(s.2.1,(s.2.2.1,((ae ((ae (s.2.2.1- (1:Int)))- (ae (aq.1- s.2.1)))),x.2.2.2.2))))) fun aR=>
 (if ((ae (aR.1.1- s.2.1))<(ae (s.2.2.1- aR.1.1))) then
 (ai (cN (aR.2.1,(s.2.1,(aR.1.1,((ae (s.2.2.2.1- (1:Int))),x.2.2.2.2))))) fun cA=>
 (Sum.inl (cA.2.1,((ae (aR.1.1+(1:Int))),(s.2.2.1,((ae (s.2.2.2.1- (1:Int))),((decide ((ae (aR.1.1- s.2.1))>=(ae (Int.tdiv (ae (s.2.2.1- s.2.1)) (8:Int))))),aR.1.2))))))) else
 (ai (cN (aR.2.1,((ae (aR.1.1+(1:Int))),(s.2.2.1,((ae (s.2.2.2.1- (1:Int))),x.2.2.2.2))))) fun cA=>
 (Sum.inl (cA.2.1,(s.2.1,(aR.1.1,((ae (s.2.2.2.1- (1:Int))),((decide ((ae (s.2.2.1- aR.1.1))>=(ae (Int.tdiv (ae (s.2.2.1- s.2.1)) (8:Int))))),aR.1.2))))))))))) else
 (ai (bA (y_2.2.1,(s.2.1,(s.2.2.1,((ae ((ae (s.2.2.1- (1:Int)))- (ae (aq.1- s.2.1)))),x.2.2.2.2))))) fun au=>
 (if ((ae (au.1.1- s.2.1))<(ae (s.2.2.1- au.1.1))) then
 (ai (cN (au.2.1,(s.2.1,(au.1.1,((ae (s.2.2.2.1- (1:Int))),x.2.2.2.2))))) fun aR=>
 (Sum.inl (aR.2.1,((ae (au.1.1+(1:Int))),(s.2.2.1,((ae (s.2.2.2.1- (1:Int))),((decide ((ae (au.1.1- s.2.1))>=(ae (Int.tdiv (ae (s.2.2.1- s.2.1)) (8:Int))))),au.1.2))))))) else
 (ai (cN (au.2.1,((ae (au.1.1+(1:Int))),(s.2.2.1,((ae (s.2.2.2.1- (1:Int))),x.2.2.2.2))))) fun aR=>
 (Sum.inl (aR.2.1,(s.2.1,(au.1.1,((ae (s.2.2.2.1- (1:Int))),((decide ((ae (s.2.2.1- au.1.1))>=(ae (Int.tdiv (ae (s.2.2.1- s.2.1)) (8:Int))))),au.1.2))))))))))) else
 (if (s.2.1>(0:Int)) then
 (ai (j8 (x.2.2.2.2,((List.getD y_2.2.1 (Int.toNat (ae (s.2.1- (1:Int)))) (0:Int)),(List.getD y_2.2.1 (Int.toNat (ae ((ae (s.2.2.1- (1:Int)))- (ae (aq.1- s.2.1))))) (0:Int))))) fun au=>
 (if ((!(decide (au<(0:Int))))=true) then
 (ai (ef (y_2.2.1,(s.2.1,(s.2.2.1,((ae ((ae (s.2.2.1- (1:Int)))- (ae (aq.1- s.2.1)))),x.2.2.2.2))))) fun aR=>
 (Sum.inl (aR.2.1,(aR.1,(s.2.2.1,((ae (s.2.2.2.1- (1:Int))),(s.2.2.2.2.1,s.2.2.2.2.2))))))) else
 (ai (bA (y_2.2.1,(s.2.1,(s.2.2.1,((ae ((ae (s.2.2.1- (1:Int)))- (ae (aq.1- s.2.1)))),x.2.2.2.2))))) fun aR=>
 (if ((ae (aR.1.1- s.2.1))<(ae (s.2.2.1- aR.1.1))) then
 (ai (cN (aR.2.1,(s.2.1,(aR.1.1,((ae (s.2.2.2.1- (1:Int))),x.2.2.2.2))))) fun cA=>
 (Sum.inl (cA.2.1,((ae (aR.1.1+(1:Int))),(s.2.2.1,((ae (s.2.2.2.1- (1:Int))),((decide ((ae (aR.1.1- s.2.1))>=(ae (Int.tdiv (ae (s.2.2.1- s.2.1)) (8:Int))))),aR.1.2))))))) else
 (ai (cN (aR.2.1,((ae (aR.1.1+(1:Int))),(s.2.2.1,((ae (s.2.2.2.1- (1:Int))),x.2.2.2.2))))) fun cA=>
 (Sum.inl (cA.2.1,(s.2.1,(aR.1.1,((ae (s.2.2.2.1- (1:Int))),((decide ((ae (s.2.2.1- aR.1.1))>=(ae (Int.tdiv (ae (s.2.2.1- s.2.1)) (8:Int))))),aR.1.2))))))))))) else
 (ai (bA (y_2.2.1,(s.2.1,(s.2.2.1,((ae ((ae (s.2.2.1- (1:Int)))- (ae (aq.1- s.2.1)))),x.2.2.2.2))))) fun au=>
 (if ((ae (au.1.1- s.2.1))<(ae (s.2.2.1- au.1.1))) then
 (ai (cN (au.2.1,(s.2.1,(au.1.1,((ae (s.2.2.2.1- (1:Int))),x.2.2.2.2))))) fun aR=>
 (Sum.inl (aR.2.1,((ae (au.1.1+(1:Int))),(s.2.2.1,((ae (s.2.2.2.1- (1:Int))),((decide ((ae (au.1.1- s.2.1))>=(ae (Int.tdiv (ae (s.2.2.1- s.2.1)) (8:Int))))),au.1.2))))))) else
 (ai (cN (au.2.1,((ae (au.1.1+(1:Int))),(s.2.2.1,((ae (s.2.2.2.1- (1:Int))),x.2.2.2.2))))) fun aR=>
 (Sum.inl (aR.2.1,(s.2.1,(au.1.1,((ae (s.2.2.2.1- (1:Int))),((decide ((ae (s.2.2.1- au.1.1))>=(ae (Int.tdiv (ae (s.2.2.1- s.2.1)) (8:Int))))),au.1.2)))))))))))) else
 (if (s.2.2.2.2.1=true) then
 (if (s.2.2.2.2.2=true) then
 (if ((aq.2==(1:Int))=true) then
 (ai (lN (y.2.1,(s.2.1,(s.2.2.1,x.2.2.2.2)))) fun y_2=>
 (if (y_2.1=true) then
 (Sum.inr (y_2.2.1)) else
 (if (s.2.1>(0:Int)) then
 (ai (j8 (x.2.2.2.2,((List.getD y_2.2.1 (Int.toNat (ae (s.2.1- (1:Int)))) (0:Int)),(List.getD y_2.2.1 (Int.toNat aq.1) (0:Int))))) fun au=>
 (if ((!(decide (au<(0:Int))))=true) then
 (ai (ef (y_2.2.1,(s.2.1,(s.2.2.1,(aq.1,x.2.2.2.2))))) fun aR=>
 (Sum.inl (aR.2.1,(aR.1,(s.2.2.1,((ae (s.2.2.2.1- (1:Int))),(s.2.2.2.2.1,s.2.2.2.2.2))))))) else
 (ai (bA (y_2.2.1,(s.2.1,(s.2.2.1,(aq.1,x.2.2.2.2))))) fun aR=>
 (if ((ae (aR.1.1- s.2.1))<(ae (s.2.2.1- aR.1.1))) then
 (ai (cN (aR.2.1,(s.2.1,(aR.1.1,((ae (s.2.2.2.1- (1:Int))),x.2.2.2.2))))) fun cA=>
 (Sum.inl (cA.2.1,((ae (aR.1.1+(1:Int))),(s.2.2.1,((ae (s.2.2.2.1- (1:Int))),((decide ((ae (aR.1.1- s.2.1))>=(ae (Int.tdiv (ae (s.2.2.1- s.2.1)) (8:Int))))),aR.1.2))))))) else
 (ai (cN (aR.2.1,((ae (aR.1.1+(1:Int))),(s.2.2.1,((ae (s.2.2.2.1- (1:Int))),x.2.2.2.2))))) fun cA=>
 (Sum.inl (cA.2.1,(s.2.1,(aR.1.1,((ae (s.2.2.2.1- (1:Int))),((decide ((ae (s.2.2.1- aR.1.1))>=(ae (Int.tdiv (ae (s.2.2.1- s.2.1)) (8:Int))))),aR.1.2))))))))))) else
 (ai (bA (y_2.2.1,(s.2.1,(s.2.2.1,(aq.1,x.2.2.2.2))))) fun au=>
 (if ((ae (au.1.1- s.2.1))<(ae (s.2.2.1- au.1.1))) then
 (ai (cN (au.2.1,(s.2.1,(au.1.1,((ae (s.2.2.2.1- (1:Int))),x.2.2.2.2))))) fun aR=>
 (Sum.inl (aR.2.1,((ae (au.1.1+(1:Int))),(s.2.2.1,((ae (s.2.2.2.1- (1:Int))),((decide ((ae (au.1.1- s.2.1))>=(ae (Int.tdiv (ae (s.2.2.1- s.2.1)) (8:Int))))),au.1.2))))))) else
 (ai (cN (au.2.1,((ae (au.1.1+(1:Int))),(s.2.2.1,((ae (s.2.2.2.1- (1:Int))),x.2.2.2.2))))) fun aR=>
 (Sum.inl (aR.2.1,(s.2.1,(au.1.1,((ae (s.2.2.2.1- (1:Int))),((decide ((ae (s.2.2.1- au.1.1))>=(ae (Int.tdiv (ae (s.2.2.1- s.2.1)) (8:Int))))),au.1.2)))))))))))) else
 (if (s.2.1>(0:Int)) then
 (ai (j8 (x.2.2.2.2,((List.getD y.2.1 (Int.toNat (ae (s.2.1- (1:Int)))) (0:Int)),(List.getD y.2.1 (Int.toNat aq.1) (0:Int))))) fun y_2=>
 (if ((!(decide (y_2<(0:Int))))=true) then
 (ai (ef (y.2.1,(s.2.1,(s.2.2.1,(aq.1,x.2.2.2.2))))) fun au=>
 (Sum.inl (au.2.1,(au.1,(s.2.2.1,((ae (s.2.2.2.1- (1:Int))),(s.2.2.2.2.1,s.2.2.2.2.2))))))) else
 (ai (bA (y.2.1,(s.2.1,(s.2.2.1,(aq.1,x.2.2.2.2))))) fun au=>
 (if ((ae (au.1.1- s.2.1))<(ae (s.2.2.1- au.1.1))) then
 (ai (cN (au.2.1,(s.2.1,(au.1.1,((ae (s.2.2.2.1- (1:Int))),x.2.2.2.2))))) fun aR=>
 (Sum.inl (aR.2.1,((ae (au.1.1+(1:Int))),(s.2.2.1,((ae (s.2.2.2.1- (1:Int))),((decide ((ae (au.1.1- s.2.1))>=(ae (Int.tdiv (ae (s.2.2.1- s.2.1)) (8:Int))))),au.1.2))))))) else
 (ai (cN (au.2.1,((ae (au.1.1+(1:Int))),(s.2.2.1,((ae (s.2.2.2.1- (1:Int))),x.2.2.2.2))))) fun aR=>
 (Sum.inl (aR.2.1,(s.2.1,(au.1.1,((ae (s.2.2.2.1- (1:Int))),((decide ((ae (s.2.2.1- au.1.1))>=(ae (Int.tdiv (ae (s.2.2.1- s.2.1)) (8:Int))))),au.1.2))))))))))) else
 (ai (bA (y.2.1,(s.2.1,(s.2.2.1,(aq.1,x.2.2.2.2))))) fun y_2=>
 (if ((ae (y_2.1.1- s.2.1))<(ae (s.2.2.1- y_2.1.1))) then
 (ai (cN (y_2.2.1,(s.2.1,(y_2.1.1,((ae (s.2.2.2.1- (1:Int))),x.2.2.2.2))))) fun au=>
 (Sum.inl (au.2.1,((ae (y_2.1.1+(1:Int))),(s.2.2.1,((ae (s.2.2.2.1- (1:Int))),((decide ((ae (y_2.1.1- s.2.1))>=(ae (Int.tdiv (ae (s.2.2.1- s.2.1)) (8:Int))))),y_2.1.2))))))) else
 (ai (cN (y_2.2.1,((ae (y_2.1.1+(1:Int))),(s.2.2.1,((ae (s.2.2.2.1- (1:Int))),x.2.2.2.2))))) fun au=>
 (Sum.inl (au.2.1,(s.2.1,(y_2.1.1,((ae (s.2.2.2.1- (1:Int))),((decide ((ae (s.2.2.1- y_2.1.1))>=(ae (Int.tdiv (ae (s.2.2.1- s.2.1)) (8:Int))))),y_2.1.2))))))))))) else
 (if (s.2.1>(0:Int)) then
 (ai (j8 (x.2.2.2.2,((List.getD y.2.1 (Int.toNat (ae (s.2.1- (1:Int)))) (0:Int)),(List.getD y.2.1 (Int.toNat aq.1) (0:Int))))) fun y_2=>
 (if ((!(decide (y_2<(0:Int))))=true) then
 (ai (ef (y.2.1,(s.2.1,(s.2.2.1,(aq.1,x.2.2.2.2))))) fun au=>
 (Sum.inl (au.2.1,(au.1,(s.2.2.1,((ae (s.2.2.2.1- (1:Int))),(s.2.2.2.2.1,s.2.2.2.2.2))))))) else
 (ai (bA (y.2.1,(s.2.1,(s.2.2.1,(aq.1,x.2.2.2.2))))) fun au=>
 (if ((ae (au.1.1- s.2.1))<(ae (s.2.2.1- au.1.1))) then
 (ai (cN (au.2.1,(s.2.1,(au.1.1,((ae (s.2.2.2.1- (1:Int))),x.2.2.2.2))))) fun aR=>
 (Sum.inl (aR.2.1,((ae (au.1.1+(1:Int))),(s.2.2.1,((ae (s.2.2.2.1- (1:Int))),((decide ((ae (au.1.1- s.2.1))>=(ae (Int.tdiv (ae (s.2.2.1- s.2.1)) (8:Int))))),au.1.2))))))) else
 (ai (cN (au.2.1,((ae (au.1.1+(1:Int))),(s.2.2.1,((ae (s.2.2.2.1- (1:Int))),x.2.2.2.2))))) fun aR=>
 (Sum.inl (aR.2.1,(s.2.1,(au.1.1,((ae (s.2.2.2.1- (1:Int))),((decide ((ae (s.2.2.1- au.1.1))>=(ae (Int.tdiv (ae (s.2.2.1- s.2.1)) (8:Int))))),au.1.2))))))))))) else
 (ai (bA (y.2.1,(s.2.1,(s.2.2.1,(aq.1,x.2.2.2.2))))) fun y_2=>
 (if ((ae (y_2.1.1- s.2.1))<(ae (s.2.2.1- y_2.1.1))) then
 (ai (cN (y_2.2.1,(s.2.1,(y_2.1.1,((ae (s.2.2.2.1- (1:Int))),x.2.2.2.2))))) fun au=>
 (Sum.inl (au.2.1,((ae (y_2.1.1+(1:Int))),(s.2.2.1,((ae (s.2.2.2.1- (1:Int))),((decide ((ae (y_2.1.1- s.2.1))>=(ae (Int.tdiv (ae (s.2.2.1- s.2.1)) (8:Int))))),y_2.1.2))))))) else
 (ai (cN (y_2.2.1,((ae (y_2.1.1+(1:Int))),(s.2.2.1,((ae (s.2.2.2.1- (1:Int))),x.2.2.2.2))))) fun au=>
 (Sum.inl (au.2.1,(s.2.1,(y_2.1.1,((ae (s.2.2.2.1- (1:Int))),((decide ((ae (s.2.2.1- y_2.1.1))>=(ae (Int.tdiv (ae (s.2.2.1- s.2.1)) (8:Int))))),y_2.1.2))))))))))) else
 (if (s.2.1>(0:Int)) then
 (ai (j8 (x.2.2.2.2,((List.getD y.2.1 (Int.toNat (ae (s.2.1- (1:Int)))) (0:Int)),(List.getD y.2.1 (Int.toNat aq.1) (0:Int))))) fun y_2=>
 (if ((!(decide (y_2<(0:Int))))=true) then
 (ai (ef (y.2.1,(s.2.1,(s.2.2.1,(aq.1,x.2.2.2.2))))) fun au=>
 (Sum.inl (au.2.1,(au.1,(s.2.2.1,((ae (s.2.2.2.1- (1:Int))),(s.2.2.2.2.1,s.2.2.2.2.2))))))) else
 (ai (bA (y.2.1,(s.2.1,(s.2.2.1,(aq.1,x.2.2.2.2))))) fun au=>
 (if ((ae (au.1.1- s.2.1))<(ae (s.2.2.1- au.1.1))) then
 (ai (cN (au.2.1,(s.2.1,(au.1.1,((ae (s.2.2.2.1- (1:Int))),x.2.2.2.2))))) fun aR=>
 (Sum.inl (aR.2.1,((ae (au.1.1+(1:Int))),(s.2.2.1,((ae (s.2.2.2.1- (1:Int))),((decide ((ae (au.1.1- s.2.1))>=(ae (Int.tdiv (ae (s.2.2.1- s.2.1)) (8:Int))))),au.1.2))))))) else
 (ai (cN (au.2.1,((ae (au.1.1+(1:Int))),(s.2.2.1,((ae (s.2.2.2.1- (1:Int))),x.2.2.2.2))))) fun aR=>
 (Sum.inl (aR.2.1,(s.2.1,(au.1.1,((ae (s.2.2.2.1- (1:Int))),((decide ((ae (s.2.2.1- au.1.1))>=(ae (Int.tdiv (ae (s.2.2.1- s.2.1)) (8:Int))))),au.1.2))))))))))) else
 (ai (bA (y.2.1,(s.2.1,(s.2.2.1,(aq.1,x.2.2.2.2))))) fun y_2=>
 (if ((ae (y_2.1.1- s.2.1))<(ae (s.2.2.1- y_2.1.1))) then
 (ai (cN (y_2.2.1,(s.2.1,(y_2.1.1,((ae (s.2.2.2.1- (1:Int))),x.2.2.2.2))))) fun au=>
 (Sum.inl (au.2.1,((ae (y_2.1.1+(1:Int))),(s.2.2.1,((ae (s.2.2.2.1- (1:Int))),((decide ((ae (y_2.1.1- s.2.1))>=(ae (Int.tdiv (ae (s.2.2.1- s.2.1)) (8:Int))))),y_2.1.2))))))) else
 (ai (cN (y_2.2.1,((ae (y_2.1.1+(1:Int))),(s.2.2.1,((ae (s.2.2.2.1- (1:Int))),x.2.2.2.2))))) fun au=>
 (Sum.inl (au.2.1,(s.2.1,(y_2.1.1,((ae (s.2.2.2.1- (1:Int))),((decide ((ae (s.2.2.1- y_2.1.1))>=(ae (Int.tdiv (ae (s.2.2.1- s.2.1)) (8:Int))))),y_2.1.2)))))))))))))) else
 (ai (zF (s.1,(s.2.1,(s.2.2.1,x.2.2.2.2)))) fun y=>
 (if ((y.2==(2:Int))=true) then
 (ai (CT (s.1,(s.2.1,(s.2.2.1,x.2.2.2.2)))) fun aq=>
 (if (s.2.2.2.2.1=true) then
 (if (s.2.2.2.2.2=true) then
 (ai (lN (aq.2.1,(s.2.1,(s.2.2.1,x.2.2.2.2)))) fun y_2=>
 (if (y_2.1=true) then
 (Sum.inr (y_2.2.1)) else
 (if (s.2.1>(0:Int)) then
 (ai (j8 (x.2.2.2.2,((List.getD y_2.2.1 (Int.toNat (ae (s.2.1- (1:Int)))) (0:Int)),(List.getD y_2.2.1 (Int.toNat (ae ((ae (s.2.2.1- (1:Int)))- (ae (y.1- s.2.1))))) (0:Int))))) fun au=>
 (if ((!(decide (au<(0:Int))))=true) then
 (ai (ef (y_2.2.1,(s.2.1,(s.2.2.1,((ae ((ae (s.2.2.1- (1:Int)))- (ae (y.1- s.2.1)))),x.2.2.2.2))))) fun aR=>
 (Sum.inl (aR.2.1,(aR.1,(s.2.2.1,(s.2.2.2.1,(s.2.2.2.2.1,s.2.2.2.2.2))))))) else
 (ai (bA (y_2.2.1,(s.2.1,(s.2.2.1,((ae ((ae (s.2.2.1- (1:Int)))- (ae (y.1- s.2.1)))),x.2.2.2.2))))) fun aR=>
 (if ((ae (aR.1.1- s.2.1))<(ae (s.2.2.1- aR.1.1))) then
 (ai (cN (aR.2.1,(s.2.1,(aR.1.1,(s.2.2.2.1,x.2.2.2.2))))) fun cA=>
 (Sum.inl (cA.2.1,((ae (aR.1.1+(1:Int))),(s.2.2.1,(s.2.2.2.1,((decide ((ae (aR.1.1- s.2.1))>=(ae (Int.tdiv (ae (s.2.2.1- s.2.1)) (8:Int))))),aR.1.2))))))) else
 (ai (cN (aR.2.1,((ae (aR.1.1+(1:Int))),(s.2.2.1,(s.2.2.2.1,x.2.2.2.2))))) fun cA=>
 (Sum.inl (cA.2.1,(s.2.1,(aR.1.1,(s.2.2.2.1,((decide ((ae (s.2.2.1- aR.1.1))>=(ae (Int.tdiv (ae (s.2.2.1- s.2.1)) (8:Int))))),aR.1.2))))))))))) else
 (ai (bA (y_2.2.1,(s.2.1,(s.2.2.1,((ae ((ae (s.2.2.1- (1:Int)))- (ae (y.1- s.2.1)))),x.2.2.2.2))))) fun au=>
 (if ((ae (au.1.1- s.2.1))<(ae (s.2.2.1- au.1.1))) then
 (ai (cN (au.2.1,(s.2.1,(au.1.1,(s.2.2.2.1,x.2.2.2.2))))) fun aR=>
 (Sum.inl (aR.2.1,((ae (au.1.1+(1:Int))),(s.2.2.1,(s.2.2.2.1,((decide ((ae (au.1.1- s.2.1))>=(ae (Int.tdiv (ae (s.2.2.1- s.2.1)) (8:Int))))),au.1.2))))))) else
 (ai (cN (au.2.1,((ae (au.1.1+(1:Int))),(s.2.2.1,(s.2.2.2.1,x.2.2.2.2))))) fun aR=>
 (Sum.inl (aR.2.1,(s.2.1,(au.1.1,(s.2.2.2.1,((decide ((ae (s.2.2.1- au.1.1))>=(ae (Int.tdiv (ae (s.2.2.1- s.2.1)) (8:Int))))),au.1.2)))))))))))) else
 (if (s.2.1>(0:Int)) then
 (ai (j8 (x.2.2.2.2,((List.getD aq.2.1 (Int.toNat (ae (s.2.1- (1:Int)))) (0:Int)),(List.getD aq.2.1 (Int.toNat (ae ((ae (s.2.2.1- (1:Int)))- (ae (y.1- s.2.1))))) (0:Int))))) fun y_2=>
 (if ((!(decide (y_2<(0:Int))))=true) then
 (ai (ef (aq.2.1,(s.2.1,(s.2.2.1,((ae ((ae (s.2.2.1- (1:Int)))- (ae (y.1- s.2.1)))),x.2.2.2.2))))) fun au=>
 (Sum.inl (au.2.1,(au.1,(s.2.2.1,(s.2.2.2.1,(s.2.2.2.2.1,s.2.2.2.2.2))))))) else
 (ai (bA (aq.2.1,(s.2.1,(s.2.2.1,((ae ((ae (s.2.2.1- (1:Int)))- (ae (y.1- s.2.1)))),x.2.2.2.2))))) fun au=>
 (if ((ae (au.1.1- s.2.1))<(ae (s.2.2.1- au.1.1))) then
 (ai (cN (au.2.1,(s.2.1,(au.1.1,(s.2.2.2.1,x.2.2.2.2))))) fun aR=>
 (Sum.inl (aR.2.1,((ae (au.1.1+(1:Int))),(s.2.2.1,(s.2.2.2.1,((decide ((ae (au.1.1- s.2.1))>=(ae (Int.tdiv (ae (s.2.2.1- s.2.1)) (8:Int))))),au.1.2))))))) else
 (ai (cN (au.2.1,((ae (au.1.1+(1:Int))),(s.2.2.1,(s.2.2.2.1,x.2.2.2.2))))) fun aR=>
 (Sum.inl (aR.2.1,(s.2.1,(au.1.1,(s.2.2.2.1,((decide ((ae (s.2.2.1- au.1.1))>=(ae (Int.tdiv (ae (s.2.2.1- s.2.1)) (8:Int))))),au.1.2))))))))))) else
 (ai (bA (aq.2.1,(s.2.1,(s.2.2.1,((ae ((ae (s.2.2.1- (1:Int)))- (ae (y.1- s.2.1)))),x.2.2.2.2))))) fun y_2=>
 (if ((ae (y_2.1.1- s.2.1))<(ae (s.2.2.1- y_2.1.1))) then
 (ai (cN (y_2.2.1,(s.2.1,(y_2.1.1,(s.2.2.2.1,x.2.2.2.2))))) fun au=>
 (Sum.inl (au.2.1,((ae (y_2.1.1+(1:Int))),(s.2.2.1,(s.2.2.2.1,((decide ((ae (y_2.1.1- s.2.1))>=(ae (Int.tdiv (ae (s.2.2.1- s.2.1)) (8:Int))))),y_2.1.2))))))) else
 (ai (cN (y_2.2.1,((ae (y_2.1.1+(1:Int))),(s.2.2.1,(s.2.2.2.1,x.2.2.2.2))))) fun au=>
 (Sum.inl (au.2.1,(s.2.1,(y_2.1.1,(s.2.2.2.1,((decide ((ae (s.2.2.1- y_2.1.1))>=(ae (Int.tdiv (ae (s.2.2.1- s.2.1)) (8:Int))))),y_2.1.2))))))))))) else
 (if (s.2.1>(0:Int)) then
 (ai (j8 (x.2.2.2.2,((List.getD aq.2.1 (Int.toNat (ae (s.2.1- (1:Int)))) (0:Int)),(List.getD aq.2.1 (Int.toNat (ae ((ae (s.2.2.1- (1:Int)))- (ae (y.1- s.2.1))))) (0:Int))))) fun y_2=>
 (if ((!(decide (y_2<(0:Int))))=true) then
 (ai (ef (aq.2.1,(s.2.1,(s.2.2.1,((ae ((ae (s.2.2.1- (1:Int)))- (ae (y.1- s.2.1)))),x.2.2.2.2))))) fun au=>
 (Sum.inl (au.2.1,(au.1,(s.2.2.1,(s.2.2.2.1,(s.2.2.2.2.1,s.2.2.2.2.2))))))) else
 (ai (bA (aq.2.1,(s.2.1,(s.2.2.1,((ae ((ae (s.2.2.1- (1:Int)))- (ae (y.1- s.2.1)))),x.2.2.2.2))))) fun au=>
 (if ((ae (au.1.1- s.2.1))<(ae (s.2.2.1- au.1.1))) then
 (ai (cN (au.2.1,(s.2.1,(au.1.1,(s.2.2.2.1,x.2.2.2.2))))) fun aR=>
 (Sum.inl (aR.2.1,((ae (au.1.1+(1:Int))),(s.2.2.1,(s.2.2.2.1,((decide ((ae (au.1.1- s.2.1))>=(ae (Int.tdiv (ae (s.2.2.1- s.2.1)) (8:Int))))),au.1.2))))))) else
 (ai (cN (au.2.1,((ae (au.1.1+(1:Int))),(s.2.2.1,(s.2.2.2.1,x.2.2.2.2))))) fun aR=>
 (Sum.inl (aR.2.1,(s.2.1,(au.1.1,(s.2.2.2.1,((decide ((ae (s.2.2.1- au.1.1))>=(ae (Int.tdiv (ae (s.2.2.1- s.2.1)) (8:Int))))),au.1.2))))))))))) else
 (ai (bA (aq.2.1,(s.2.1,(s.2.2.1,((ae ((ae (s.2.2.1- (1:Int)))- (ae (y.1- s.2.1)))),x.2.2.2.2))))) fun y_2=>
 (if ((ae (y_2.1.1- s.2.1))<(ae (s.2.2.1- y_2.1.1))) then
 (ai (cN (y_2.2.1,(s.2.1,(y_2.1.1,(s.2.2.2.1,x.2.2.2.2))))) fun au=>
 (Sum.inl (au.2.1,((ae (y_2.1.1+(1:Int))),(s.2.2.1,(s.2.2.2.1,((decide ((ae (y_2.1.1- s.2.1))>=(ae (Int.tdiv (ae (s.2.2.1- s.2.1)) (8:Int))))),y_2.1.2))))))) else
 (ai (cN (y_2.2.1,((ae (y_2.1.1+(1:Int))),(s.2.2.1,(s.2.2.2.1,x.2.2.2.2))))) fun au=>
 (Sum.inl (au.2.1,(s.2.1,(y_2.1.1,(s.2.2.2.1,((decide ((ae (s.2.2.1- y_2.1.1))>=(ae (Int.tdiv (ae (s.2.2.1- s.2.1)) (8:Int))))),y_2.1.2)))))))))))) else
 (if (s.2.2.2.2.1=true) then
 (if (s.2.2.2.2.2=true) then
 (if ((y.2==(1:Int))=true) then
 (ai (lN (s.1,(s.2.1,(s.2.2.1,x.2.2.2.2)))) fun aq=>
 (if (aq.1=true) then
 (Sum.inr (aq.2.1)) else
 (if (s.2.1>(0:Int)) then
 (ai (j8 (x.2.2.2.2,((List.getD aq.2.1 (Int.toNat (ae (s.2.1- (1:Int)))) (0:Int)),(List.getD aq.2.1 (Int.toNat y.1) (0:Int))))) fun y_2=>
 (if ((!(decide (y_2<(0:Int))))=true) then
 (ai (ef (aq.2.1,(s.2.1,(s.2.2.1,(y.1,x.2.2.2.2))))) fun au=>
 (Sum.inl (au.2.1,(au.1,(s.2.2.1,(s.2.2.2.1,(s.2.2.2.2.1,s.2.2.2.2.2))))))) else
 (ai (bA (aq.2.1,(s.2.1,(s.2.2.1,(y.1,x.2.2.2.2))))) fun au=>
 (if ((ae (au.1.1- s.2.1))<(ae (s.2.2.1- au.1.1))) then
 (ai (cN (au.2.1,(s.2.1,(au.1.1,(s.2.2.2.1,x.2.2.2.2))))) fun aR=>
 (Sum.inl (aR.2.1,((ae (au.1.1+(1:Int))),(s.2.2.1,(s.2.2.2.1,((decide ((ae (au.1.1- s.2.1))>=(ae (Int.tdiv (ae (s.2.2.1- s.2.1)) (8:Int))))),au.1.2))))))) else
 (ai (cN (au.2.1,((ae (au.1.1+(1:Int))),(s.2.2.1,(s.2.2.2.1,x.2.2.2.2))))) fun aR=>
 (Sum.inl (aR.2.1,(s.2.1,(au.1.1,(s.2.2.2.1,((decide ((ae (s.2.2.1- au.1.1))>=(ae (Int.tdiv (ae (s.2.2.1- s.2.1)) (8:Int))))),au.1.2))))))))))) else
 (ai (bA (aq.2.1,(s.2.1,(s.2.2.1,(y.1,x.2.2.2.2))))) fun y_2=>
 (if ((ae (y_2.1.1- s.2.1))<(ae (s.2.2.1- y_2.1.1))) then
 (ai (cN (y_2.2.1,(s.2.1,(y_2.1.1,(s.2.2.2.1,x.2.2.2.2))))) fun au=>
 (Sum.inl (au.2.1,((ae (y_2.1.1+(1:Int))),(s.2.2.1,(s.2.2.2.1,((decide ((ae (y_2.1.1- s.2.1))>=(ae (Int.tdiv (ae (s.2.2.1- s.2.1)) (8:Int))))),y_2.1.2))))))) else
 (ai (cN (y_2.2.1,((ae (y_2.1.1+(1:Int))),(s.2.2.1,(s.2.2.2.1,x.2.2.2.2))))) fun au=>
 (Sum.inl (au.2.1,(s.2.1,(y_2.1.1,(s.2.2.2.1,((decide ((ae (s.2.2.1- y_2.1.1))>=(ae (Int.tdiv (ae (s.2.2.1- s.2.1)) (8:Int))))),y_2.1.2)))))))))))) else
 (if (s.2.1>(0:Int)) then
 (ai (j8 (x.2.2.2.2,((List.getD s.1 (Int.toNat (ae (s.2.1- (1:Int)))) (0:Int)),(List.getD s.1 (Int.toNat y.1) (0:Int))))) fun aq=>
 (if ((!(decide (aq<(0:Int))))=true) then
 (ai (ef (s.1,(s.2.1,(s.2.2.1,(y.1,x.2.2.2.2))))) fun y_2=>
 (Sum.inl (y_2.2.1,(y_2.1,(s.2.2.1,(s.2.2.2.1,(s.2.2.2.2.1,s.2.2.2.2.2))))))) else
 (ai (bA (s.1,(s.2.1,(s.2.2.1,(y.1,x.2.2.2.2))))) fun y_2=>
 (if ((ae (y_2.1.1- s.2.1))<(ae (s.2.2.1- y_2.1.1))) then
 (ai (cN (y_2.2.1,(s.2.1,(y_2.1.1,(s.2.2.2.1,x.2.2.2.2))))) fun au=>
 (Sum.inl (au.2.1,((ae (y_2.1.1+(1:Int))),(s.2.2.1,(s.2.2.2.1,((decide ((ae (y_2.1.1- s.2.1))>=(ae (Int.tdiv (ae (s.2.2.1- s.2.1)) (8:Int))))),y_2.1.2))))))) else
 (ai (cN (y_2.2.1,((ae (y_2.1.1+(1:Int))),(s.2.2.1,(s.2.2.2.1,x.2.2.2.2))))) fun au=>
 (Sum.inl (au.2.1,(s.2.1,(y_2.1.1,(s.2.2.2.1,((decide ((ae (s.2.2.1- y_2.1.1))>=(ae (Int.tdiv (ae (s.2.2.1- s.2.1)) (8:Int))))),y_2.1.2))))))))))) else
 (ai (bA (s.1,(s.2.1,(s.2.2.1,(y.1,x.2.2.2.2))))) fun aq=>
 (if ((ae (aq.1.1- s.2.1))<(ae (s.2.2.1- aq.1.1))) then
 (ai (cN (aq.2.1,(s.2.1,(aq.1.1,(s.2.2.2.1,x.2.2.2.2))))) fun y_2=>
 (Sum.inl (y_2.2.1,((ae (aq.1.1+(1:Int))),(s.2.2.1,(s.2.2.2.1,((decide ((ae (aq.1.1- s.2.1))>=(ae (Int.tdiv (ae (s.2.2.1- s.2.1)) (8:Int))))),aq.1.2))))))) else
 (ai (cN (aq.2.1,((ae (aq.1.1+(1:Int))),(s.2.2.1,(s.2.2.2.1,x.2.2.2.2))))) fun y_2=>
 (Sum.inl (y_2.2.1,(s.2.1,(aq.1.1,(s.2.2.2.1,((decide ((ae (s.2.2.1- aq.1.1))>=(ae (Int.tdiv (ae (s.2.2.1- s.2.1)) (8:Int))))),aq.1.2))))))))))) else
 (if (s.2.1>(0:Int)) then
 (ai (j8 (x.2.2.2.2,((List.getD s.1 (Int.toNat (ae (s.2.1- (1:Int)))) (0:Int)),(List.getD s.1 (Int.toNat y.1) (0:Int))))) fun aq=>
 (if ((!(decide (aq<(0:Int))))=true) then
 (ai (ef (s.1,(s.2.1,(s.2.2.1,(y.1,x.2.2.2.2))))) fun y_2=>
 (Sum.inl (y_2.2.1,(y_2.1,(s.2.2.1,(s.2.2.2.1,(s.2.2.2.2.1,s.2.2.2.2.2))))))) else
 (ai (bA (s.1,(s.2.1,(s.2.2.1,(y.1,x.2.2.2.2))))) fun y_2=>
 (if ((ae (y_2.1.1- s.2.1))<(ae (s.2.2.1- y_2.1.1))) then
 (ai (cN (y_2.2.1,(s.2.1,(y_2.1.1,(s.2.2.2.1,x.2.2.2.2))))) fun au=>
 (Sum.inl (au.2.1,((ae (y_2.1.1+(1:Int))),(s.2.2.1,(s.2.2.2.1,((decide ((ae (y_2.1.1- s.2.1))>=(ae (Int.tdiv (ae (s.2.2.1- s.2.1)) (8:Int))))),y_2.1.2))))))) else
 (ai (cN (y_2.2.1,((ae (y_2.1.1+(1:Int))),(s.2.2.1,(s.2.2.2.1,x.2.2.2.2))))) fun au=>
 (Sum.inl (au.2.1,(s.2.1,(y_2.1.1,(s.2.2.2.1,((decide ((ae (s.2.2.1- y_2.1.1))>=(ae (Int.tdiv (ae (s.2.2.1- s.2.1)) (8:Int))))),y_2.1.2))))))))))) else
 (ai (bA (s.1,(s.2.1,(s.2.2.1,(y.1,x.2.2.2.2))))) fun aq=>
 (if ((ae (aq.1.1- s.2.1))<(ae (s.2.2.1- aq.1.1))) then
 (ai (cN (aq.2.1,(s.2.1,(aq.1.1,(s.2.2.2.1,x.2.2.2.2))))) fun y_2=>
 (Sum.inl (y_2.2.1,((ae (aq.1.1+(1:Int))),(s.2.2.1,(s.2.2.2.1,((decide ((ae (aq.1.1- s.2.1))>=(ae (Int.tdiv (ae (s.2.2.1- s.2.1)) (8:Int))))),aq.1.2))))))) else
 (ai (cN (aq.2.1,((ae (aq.1.1+(1:Int))),(s.2.2.1,(s.2.2.2.1,x.2.2.2.2))))) fun y_2=>
 (Sum.inl (y_2.2.1,(s.2.1,(aq.1.1,(s.2.2.2.1,((decide ((ae (s.2.2.1- aq.1.1))>=(ae (Int.tdiv (ae (s.2.2.1- s.2.1)) (8:Int))))),aq.1.2))))))))))) else
 (if (s.2.1>(0:Int)) then
 (ai (j8 (x.2.2.2.2,((List.getD s.1 (Int.toNat (ae (s.2.1- (1:Int)))) (0:Int)),(List.getD s.1 (Int.toNat y.1) (0:Int))))) fun aq=>
 (if ((!(decide (aq<(0:Int))))=true) then
 (ai (ef (s.1,(s.2.1,(s.2.2.1,(y.1,x.2.2.2.2))))) fun y_2=>
 (Sum.inl (y_2.2.1,(y_2.1,(s.2.2.1,(s.2.2.2.1,(s.2.2.2.2.1,s.2.2.2.2.2))))))) else
 (ai (bA (s.1,(s.2.1,(s.2.2.1,(y.1,x.2.2.2.2))))) fun y_2=>
 (if ((ae (y_2.1.1- s.2.1))<(ae (s.2.2.1- y_2.1.1))) then
 (ai (cN (y_2.2.1,(s.2.1,(y_2.1.1,(s.2.2.2.1,x.2.2.2.2))))) fun au=>
 (Sum.inl (au.2.1,((ae (y_2.1.1+(1:Int))),(s.2.2.1,(s.2.2.2.1,((decide ((ae (y_2.1.1- s.2.1))>=(ae (Int.tdiv (ae (s.2.2.1- s.2.1)) (8:Int))))),y_2.1.2))))))) else
 (ai (cN (y_2.2.1,((ae (y_2.1.1+(1:Int))),(s.2.2.1,(s.2.2.2.1,x.2.2.2.2))))) fun au=>
 (Sum.inl (au.2.1,(s.2.1,(y_2.1.1,(s.2.2.2.1,((decide ((ae (s.2.2.1- y_2.1.1))>=(ae (Int.tdiv (ae (s.2.2.1- s.2.1)) (8:Int))))),y_2.1.2))))))))))) else
 (ai (bA (s.1,(s.2.1,(s.2.2.1,(y.1,x.2.2.2.2))))) fun aq=>
 (if ((ae (aq.1.1- s.2.1))<(ae (s.2.2.1- aq.1.1))) then
 (ai (cN (aq.2.1,(s.2.1,(aq.1.1,(s.2.2.2.1,x.2.2.2.2))))) fun y_2=>
 (Sum.inl (y_2.2.1,((ae (aq.1.1+(1:Int))),(s.2.2.1,(s.2.2.2.1,((decide ((ae (aq.1.1- s.2.1))>=(ae (Int.tdiv (ae (s.2.2.1- s.2.1)) (8:Int))))),aq.1.2))))))) else
 (ai (cN (aq.2.1,((ae (aq.1.1+(1:Int))),(s.2.2.1,(s.2.2.2.1,x.2.2.2.2))))) fun y_2=>
 (Sum.inl (y_2.2.1,(s.2.1,(aq.1.1,(s.2.2.2.1,((decide ((ae (s.2.2.1- aq.1.1))>=(ae (Int.tdiv (ae (s.2.2.1- s.2.1)) (8:Int))))),aq.1.2))))))))))))))))
def gy (x:((List Int)×(Int×(Int×(Int×((List I9)×Int)))))) (s:((List Int)×(Int×(Int×(Int×(Bool×Bool)))))):Prop:=
 ((((ae (s.2.2.1- s.2.1))<=(12:Int))->
 (rL (s.1,(s.2.1,(s.2.2.1,x.2.2.2.2)))))/\
 (¬((ae (s.2.2.1- s.2.1))<=(12:Int))->
 ((((s.2.2.2.1==(0:Int))=true)->
 (pg (s.1,(s.2.1,(s.2.2.1,x.2.2.2.2)))))/\
 (¬((s.2.2.2.1==(0:Int))=true)->
 ((((!s.2.2.2.2.1)=true)->
 ((oX (s.1,(s.2.1,(s.2.2.1,x.2.2.2.2))))/\
 ay (FY (s.1,(s.2.1,(s.2.2.1,x.2.2.2.2)))) fun y=>
 ((lP (y.2.1,(s.2.1,(s.2.2.1,x.2.2.2.2))))/\
 ay (zF (y.2.1,(s.2.1,(s.2.2.1,x.2.2.2.2)))) fun aq=>
 ((((aq.2==(2:Int))=true)->
 ((pD (y.2.1,(s.2.1,(s.2.2.1,x.2.2.2.2))))/\
 ay (CT (y.2.1,(s.2.1,(s.2.2.1,x.2.2.2.2)))) fun y_2=>
 (((s.2.2.2.2.1=true)->
 (((s.2.2.2.2.2=true)->
 ((jx (y_2.2.1,(s.2.1,(s.2.2.1,x.2.2.2.2))))/\
 ay (lN (y_2.2.1,(s.2.1,(s.2.2.1,x.2.2.2.2)))) fun au=>
 (¬(au.1=true)->
 (((s.2.1>(0:Int))->
 ((((0:Int)<=(ae (s.2.1- (1:Int))))/\ ((ae (s.2.1- (1:Int)))<(au.2.1.length:Int)))/\
 (((Int.toNat (ae (s.2.1- (1:Int))))<(List.length au.2.1))/\
 (((Int.toNat (ae (s.2.1- (1:Int))))<(List.length au.2.1))/\
 ((((0:Int)<=(ae ((ae (s.2.2.1- (1:Int)))- (ae (aq.1- s.2.1)))))/\ ((ae ((ae (s.2.2.1- (1:Int)))- (ae (aq.1- s.2.1))))<(au.2.1.length:Int)))/\
 (((Int.toNat (ae ((ae (s.2.2.1- (1:Int)))- (ae (aq.1- s.2.1)))))<(List.length au.2.1))/\
 (((Int.toNat (ae ((ae (s.2.2.1- (1:Int)))- (ae (aq.1- s.2.1)))))<(List.length au.2.1))/\
 ((bO (x.2.2.2.2,((List.getD au.2.1 (Int.toNat (ae (s.2.1- (1:Int)))) (0:Int)),(List.getD au.2.1 (Int.toNat (ae ((ae (s.2.2.1- (1:Int)))- (ae (aq.1- s.2.1))))) (0:Int)))))/\
 ay (j8 (x.2.2.2.2,((List.getD au.2.1 (Int.toNat (ae (s.2.1- (1:Int)))) (0:Int)),(List.getD au.2.1 (Int.toNat (ae ((ae (s.2.2.1- (1:Int)))- (ae (aq.1- s.2.1))))) (0:Int))))) fun aR=>
 ((((!(decide (aR<(0:Int))))=true)->
 (cu (au.2.1,(s.2.1,(s.2.2.1,((ae ((ae (s.2.2.1- (1:Int)))- (ae (aq.1- s.2.1)))),x.2.2.2.2))))))/\
 (¬((!(decide (aR<(0:Int))))=true)->
 ((bj (au.2.1,(s.2.1,(s.2.2.1,((ae ((ae (s.2.2.1- (1:Int)))- (ae (aq.1- s.2.1)))),x.2.2.2.2)))))/\
 ay (bA (au.2.1,(s.2.1,(s.2.2.1,((ae ((ae (s.2.2.1- (1:Int)))- (ae (aq.1- s.2.1)))),x.2.2.2.2))))) fun cA=>
 ((((ae (cA.1.1- s.2.1))<(ae (s.2.2.1- cA.1.1)))->
 (aK (cA.2.1,(s.2.1,(cA.1.1,((ae (s.2.2.2.1- (1:Int))),x.2.2.2.2))))))/\
 (¬((ae (cA.1.1- s.2.1))<(ae (s.2.2.1- cA.1.1)))->
 (aK (cA.2.1,((ae (cA.1.1+(1:Int))),(s.2.2.1,((ae (s.2.2.2.1- (1:Int))),x.2.2.2.2))))))))))))))))))/\
 (¬(s.2.1>(0:Int))->
 ((bj (au.2.1,(s.2.1,(s.2.2.1,((ae ((ae (s.2.2.1- (1:Int)))- (ae (aq.1- s.2.1)))),x.2.2.2.2)))))/\
 ay (bA (au.2.1,(s.2.1,(s.2.2.1,((ae ((ae (s.2.2.1- (1:Int)))- (ae (aq.1- s.2.1)))),x.2.2.2.2))))) fun aR=>
 ((((ae (aR.1.1- s.2.1))<(ae (s.2.2.1- aR.1.1)))->
 (aK (aR.2.1,(s.2.1,(aR.1.1,((ae (s.2.2.2.1- (1:Int))),x.2.2.2.2))))))/\
 (¬((ae (aR.1.1- s.2.1))<(ae (s.2.2.1- aR.1.1)))->
 (aK (aR.2.1,((ae (aR.1.1+(1:Int))),(s.2.2.1,((ae (s.2.2.2.1- (1:Int))),x.2.2.2.2)))))))))))))/\
 (¬(s.2.2.2.2.2=true)->
 (((s.2.1>(0:Int))->
 ((((0:Int)<=(ae (s.2.1- (1:Int))))/\ ((ae (s.2.1- (1:Int)))<(y_2.2.1.length:Int)))/\
 (((Int.toNat (ae (s.2.1- (1:Int))))<(List.length y_2.2.1))/\
 (((Int.toNat (ae (s.2.1- (1:Int))))<(List.length y_2.2.1))/\
 ((((0:Int)<=(ae ((ae (s.2.2.1- (1:Int)))- (ae (aq.1- s.2.1)))))/\ ((ae ((ae (s.2.2.1- (1:Int)))- (ae (aq.1- s.2.1))))<(y_2.2.1.length:Int)))/\
 (((Int.toNat (ae ((ae (s.2.2.1- (1:Int)))- (ae (aq.1- s.2.1)))))<(List.length y_2.2.1))/\
 (((Int.toNat (ae ((ae (s.2.2.1- (1:Int)))- (ae (aq.1- s.2.1)))))<(List.length y_2.2.1))/\
 ((bO (x.2.2.2.2,((List.getD y_2.2.1 (Int.toNat (ae (s.2.1- (1:Int)))) (0:Int)),(List.getD y_2.2.1 (Int.toNat (ae ((ae (s.2.2.1- (1:Int)))- (ae (aq.1- s.2.1))))) (0:Int)))))/\
 ay (j8 (x.2.2.2.2,((List.getD y_2.2.1 (Int.toNat (ae (s.2.1- (1:Int)))) (0:Int)),(List.getD y_2.2.1 (Int.toNat (ae ((ae (s.2.2.1- (1:Int)))- (ae (aq.1- s.2.1))))) (0:Int))))) fun au=>
 ((((!(decide (au<(0:Int))))=true)->
 (cu (y_2.2.1,(s.2.1,(s.2.2.1,((ae ((ae (s.2.2.1- (1:Int)))- (ae (aq.1- s.2.1)))),x.2.2.2.2))))))/\
 (¬((!(decide (au<(0:Int))))=true)->
 ((bj (y_2.2.1,(s.2.1,(s.2.2.1,((ae ((ae (s.2.2.1- (1:Int)))- (ae (aq.1- s.2.1)))),x.2.2.2.2)))))/\
 ay (bA (y_2.2.1,(s.2.1,(s.2.2.1,((ae ((ae (s.2.2.1- (1:Int)))- (ae (aq.1- s.2.1)))),x.2.2.2.2))))) fun aR=>
 ((((ae (aR.1.1- s.2.1))<(ae (s.2.2.1- aR.1.1)))->
 (aK (aR.2.1,(s.2.1,(aR.1.1,((ae (s.2.2.2.1- (1:Int))),x.2.2.2.2))))))/\
 (¬((ae (aR.1.1- s.2.1))<(ae (s.2.2.1- aR.1.1)))->
 (aK (aR.2.1,((ae (aR.1.1+(1:Int))),(s.2.2.1,((ae (s.2.2.2.1- (1:Int))),x.2.2.2.2))))))))))))))))))/\
 (¬(s.2.1>(0:Int))->
 ((bj (y_2.2.1,(s.2.1,(s.2.2.1,((ae ((ae (s.2.2.1- (1:Int)))- (ae (aq.1- s.2.1)))),x.2.2.2.2)))))/\
 ay (bA (y_2.2.1,(s.2.1,(s.2.2.1,((ae ((ae (s.2.2.1- (1:Int)))- (ae (aq.1- s.2.1)))),x.2.2.2.2))))) fun au=>
 ((((ae (au.1.1- s.2.1))<(ae (s.2.2.1- au.1.1)))->
 (aK (au.2.1,(s.2.1,(au.1.1,((ae (s.2.2.2.1- (1:Int))),x.2.2.2.2))))))/\
 (¬((ae (au.1.1- s.2.1))<(ae (s.2.2.1- au.1.1)))->
 (aK (au.2.1,((ae (au.1.1+(1:Int))),(s.2.2.1,((ae (s.2.2.2.1- (1:Int))),x.2.2.2.2)))))))))))))/\
 (¬(s.2.2.2.2.1=true)->
 (((s.2.1>(0:Int))->
 ((((0:Int)<=(ae (s.2.1- (1:Int))))/\ ((ae (s.2.1- (1:Int)))<(y_2.2.1.length:Int)))/\
 (((Int.toNat (ae (s.2.1- (1:Int))))<(List.length y_2.2.1))/\
 (((Int.toNat (ae (s.2.1- (1:Int))))<(List.length y_2.2.1))/\
 ((((0:Int)<=(ae ((ae (s.2.2.1- (1:Int)))- (ae (aq.1- s.2.1)))))/\ ((ae ((ae (s.2.2.1- (1:Int)))- (ae (aq.1- s.2.1))))<(y_2.2.1.length:Int)))/\
 (((Int.toNat (ae ((ae (s.2.2.1- (1:Int)))- (ae (aq.1- s.2.1)))))<(List.length y_2.2.1))/\
 (((Int.toNat (ae ((ae (s.2.2.1- (1:Int)))- (ae (aq.1- s.2.1)))))<(List.length y_2.2.1))/\
 ((bO (x.2.2.2.2,((List.getD y_2.2.1 (Int.toNat (ae (s.2.1- (1:Int)))) (0:Int)),(List.getD y_2.2.1 (Int.toNat (ae ((ae (s.2.2.1- (1:Int)))- (ae (aq.1- s.2.1))))) (0:Int)))))/\
 ay (j8 (x.2.2.2.2,((List.getD y_2.2.1 (Int.toNat (ae (s.2.1- (1:Int)))) (0:Int)),(List.getD y_2.2.1 (Int.toNat (ae ((ae (s.2.2.1- (1:Int)))- (ae (aq.1- s.2.1))))) (0:Int))))) fun au=>
 ((((!(decide (au<(0:Int))))=true)->
 (cu (y_2.2.1,(s.2.1,(s.2.2.1,((ae ((ae (s.2.2.1- (1:Int)))- (ae (aq.1- s.2.1)))),x.2.2.2.2))))))/\
 (¬((!(decide (au<(0:Int))))=true)->
 ((bj (y_2.2.1,(s.2.1,(s.2.2.1,((ae ((ae (s.2.2.1- (1:Int)))- (ae (aq.1- s.2.1)))),x.2.2.2.2)))))/\
 ay (bA (y_2.2.1,(s.2.1,(s.2.2.1,((ae ((ae (s.2.2.1- (1:Int)))- (ae (aq.1- s.2.1)))),x.2.2.2.2))))) fun aR=>
 ((((ae (aR.1.1- s.2.1))<(ae (s.2.2.1- aR.1.1)))->
 (aK (aR.2.1,(s.2.1,(aR.1.1,((ae (s.2.2.2.1- (1:Int))),x.2.2.2.2))))))/\
 (¬((ae (aR.1.1- s.2.1))<(ae (s.2.2.1- aR.1.1)))->
 (aK (aR.2.1,((ae (aR.1.1+(1:Int))),(s.2.2.1,((ae (s.2.2.2.1- (1:Int))),x.2.2.2.2))))))))))))))))))/\
 (¬(s.2.1>(0:Int))->
 ((bj (y_2.2.1,(s.2.1,(s.2.2.1,((ae ((ae (s.2.2.1- (1:Int)))- (ae (aq.1- s.2.1)))),x.2.2.2.2)))))/\
 ay (bA (y_2.2.1,(s.2.1,(s.2.2.1,((ae ((ae (s.2.2.1- (1:Int)))- (ae (aq.1- s.2.1)))),x.2.2.2.2))))) fun au=>
 ((((ae (au.1.1- s.2.1))<(ae (s.2.2.1- au.1.1)))->
 (aK (au.2.1,(s.2.1,(au.1.1,((ae (s.2.2.2.1- (1:Int))),x.2.2.2.2))))))/\
 (¬((ae (au.1.1- s.2.1))<(ae (s.2.2.1- au.1.1)))->
 (aK (au.2.1,((ae (au.1.1+(1:Int))),(s.2.2.1,((ae (s.2.2.2.1- (1:Int))),x.2.2.2.2))))))))))))))/\
 (¬((aq.2==(2:Int))=true)->
 (((s.2.2.2.2.1=true)->
 (((s.2.2.2.2.2=true)->
 ((((aq.2==(1:Int))=true)->
 ((jx (y.2.1,(s.2.1,(s.2.2.1,x.2.2.2.2))))/\
 ay (lN (y.2.1,(s.2.1,(s.2.2.1,x.2.2.2.2)))) fun y_2=>
 (¬(y_2.1=true)->
 (((s.2.1>(0:Int))->
 ((((0:Int)<=(ae (s.2.1- (1:Int))))/\ ((ae (s.2.1- (1:Int)))<(y_2.2.1.length:Int)))/\
 (((Int.toNat (ae (s.2.1- (1:Int))))<(List.length y_2.2.1))/\
 (((Int.toNat (ae (s.2.1- (1:Int))))<(List.length y_2.2.1))/\
 ((((0:Int)<=aq.1)/\ (aq.1<(y_2.2.1.length:Int)))/\
 (((Int.toNat aq.1)<(List.length y_2.2.1))/\
 (((Int.toNat aq.1)<(List.length y_2.2.1))/\
 ((bO (x.2.2.2.2,((List.getD y_2.2.1 (Int.toNat (ae (s.2.1- (1:Int)))) (0:Int)),(List.getD y_2.2.1 (Int.toNat aq.1) (0:Int)))))/\
 ay (j8 (x.2.2.2.2,((List.getD y_2.2.1 (Int.toNat (ae (s.2.1- (1:Int)))) (0:Int)),(List.getD y_2.2.1 (Int.toNat aq.1) (0:Int))))) fun au=>
 ((((!(decide (au<(0:Int))))=true)->
 (cu (y_2.2.1,(s.2.1,(s.2.2.1,(aq.1,x.2.2.2.2))))))/\
 (¬((!(decide (au<(0:Int))))=true)->
 ((bj (y_2.2.1,(s.2.1,(s.2.2.1,(aq.1,x.2.2.2.2)))))/\
 ay (bA (y_2.2.1,(s.2.1,(s.2.2.1,(aq.1,x.2.2.2.2))))) fun aR=>
 ((((ae (aR.1.1- s.2.1))<(ae (s.2.2.1- aR.1.1)))->
 (aK (aR.2.1,(s.2.1,(aR.1.1,((ae (s.2.2.2.1- (1:Int))),x.2.2.2.2))))))/\
 (¬((ae (aR.1.1- s.2.1))<(ae (s.2.2.1- aR.1.1)))->
 (aK (aR.2.1,((ae (aR.1.1+(1:Int))),(s.2.2.1,((ae (s.2.2.2.1- (1:Int))),x.2.2.2.2))))))))))))))))))/\
 (¬(s.2.1>(0:Int))->
 ((bj (y_2.2.1,(s.2.1,(s.2.2.1,(aq.1,x.2.2.2.2)))))/\
 ay (bA (y_2.2.1,(s.2.1,(s.2.2.1,(aq.1,x.2.2.2.2))))) fun au=>
 ((((ae (au.1.1- s.2.1))<(ae (s.2.2.1- au.1.1)))->
 (aK (au.2.1,(s.2.1,(au.1.1,((ae (s.2.2.2.1- (1:Int))),x.2.2.2.2))))))/\
 (¬((ae (au.1.1- s.2.1))<(ae (s.2.2.1- au.1.1)))->
 (aK (au.2.1,((ae (au.1.1+(1:Int))),(s.2.2.1,((ae (s.2.2.2.1- (1:Int))),x.2.2.2.2)))))))))))))/\
 (¬((aq.2==(1:Int))=true)->
 (((s.2.1>(0:Int))->
 ((((0:Int)<=(ae (s.2.1- (1:Int))))/\ ((ae (s.2.1- (1:Int)))<(y.2.1.length:Int)))/\
 (((Int.toNat (ae (s.2.1- (1:Int))))<(List.length y.2.1))/\
 (((Int.toNat (ae (s.2.1- (1:Int))))<(List.length y.2.1))/\
 ((((0:Int)<=aq.1)/\ (aq.1<(y.2.1.length:Int)))/\
 (((Int.toNat aq.1)<(List.length y.2.1))/\
 (((Int.toNat aq.1)<(List.length y.2.1))/\
 ((bO (x.2.2.2.2,((List.getD y.2.1 (Int.toNat (ae (s.2.1- (1:Int)))) (0:Int)),(List.getD y.2.1 (Int.toNat aq.1) (0:Int)))))/\
 ay (j8 (x.2.2.2.2,((List.getD y.2.1 (Int.toNat (ae (s.2.1- (1:Int)))) (0:Int)),(List.getD y.2.1 (Int.toNat aq.1) (0:Int))))) fun y_2=>
 ((((!(decide (y_2<(0:Int))))=true)->
 (cu (y.2.1,(s.2.1,(s.2.2.1,(aq.1,x.2.2.2.2))))))/\
 (¬((!(decide (y_2<(0:Int))))=true)->
 ((bj (y.2.1,(s.2.1,(s.2.2.1,(aq.1,x.2.2.2.2)))))/\
 ay (bA (y.2.1,(s.2.1,(s.2.2.1,(aq.1,x.2.2.2.2))))) fun au=>
 ((((ae (au.1.1- s.2.1))<(ae (s.2.2.1- au.1.1)))->
 (aK (au.2.1,(s.2.1,(au.1.1,((ae (s.2.2.2.1- (1:Int))),x.2.2.2.2))))))/\
 (¬((ae (au.1.1- s.2.1))<(ae (s.2.2.1- au.1.1)))->
 (aK (au.2.1,((ae (au.1.1+(1:Int))),(s.2.2.1,((ae (s.2.2.2.1- (1:Int))),x.2.2.2.2))))))))))))))))))/\
 (¬(s.2.1>(0:Int))->
 ((bj (y.2.1,(s.2.1,(s.2.2.1,(aq.1,x.2.2.2.2)))))/\
 ay (bA (y.2.1,(s.2.1,(s.2.2.1,(aq.1,x.2.2.2.2))))) fun y_2=>
 ((((ae (y_2.1.1- s.2.1))<(ae (s.2.2.1- y_2.1.1)))->
 (aK (y_2.2.1,(s.2.1,(y_2.1.1,((ae (s.2.2.2.1- (1:Int))),x.2.2.2.2))))))/\
 (¬((ae (y_2.1.1- s.2.1))<(ae (s.2.2.1- y_2.1.1)))->
 (aK (y_2.2.1,((ae (y_2.1.1+(1:Int))),(s.2.2.1,((ae (s.2.2.2.1- (1:Int))),x.2.2.2.2)))))))))))))/\
 (¬(s.2.2.2.2.2=true)->
 (((s.2.1>(0:Int))->
 ((((0:Int)<=(ae (s.2.1- (1:Int))))/\ ((ae (s.2.1- (1:Int)))<(y.2.1.length:Int)))/\
 (((Int.toNat (ae (s.2.1- (1:Int))))<(List.length y.2.1))/\
 (((Int.toNat (ae (s.2.1- (1:Int))))<(List.length y.2.1))/\
 ((((0:Int)<=aq.1)/\ (aq.1<(y.2.1.length:Int)))/\
 (((Int.toNat aq.1)<(List.length y.2.1))/\
 (((Int.toNat aq.1)<(List.length y.2.1))/\
 ((bO (x.2.2.2.2,((List.getD y.2.1 (Int.toNat (ae (s.2.1- (1:Int)))) (0:Int)),(List.getD y.2.1 (Int.toNat aq.1) (0:Int)))))/\
 ay (j8 (x.2.2.2.2,((List.getD y.2.1 (Int.toNat (ae (s.2.1- (1:Int)))) (0:Int)),(List.getD y.2.1 (Int.toNat aq.1) (0:Int))))) fun y_2=>
 ((((!(decide (y_2<(0:Int))))=true)->
 (cu (y.2.1,(s.2.1,(s.2.2.1,(aq.1,x.2.2.2.2))))))/\
 (¬((!(decide (y_2<(0:Int))))=true)->
 ((bj (y.2.1,(s.2.1,(s.2.2.1,(aq.1,x.2.2.2.2)))))/\
 ay (bA (y.2.1,(s.2.1,(s.2.2.1,(aq.1,x.2.2.2.2))))) fun au=>
 ((((ae (au.1.1- s.2.1))<(ae (s.2.2.1- au.1.1)))->
 (aK (au.2.1,(s.2.1,(au.1.1,((ae (s.2.2.2.1- (1:Int))),x.2.2.2.2))))))/\
 (¬((ae (au.1.1- s.2.1))<(ae (s.2.2.1- au.1.1)))->
 (aK (au.2.1,((ae (au.1.1+(1:Int))),(s.2.2.1,((ae (s.2.2.2.1- (1:Int))),x.2.2.2.2))))))))))))))))))/\
 (¬(s.2.1>(0:Int))->
 ((bj (y.2.1,(s.2.1,(s.2.2.1,(aq.1,x.2.2.2.2)))))/\
 ay (bA (y.2.1,(s.2.1,(s.2.2.1,(aq.1,x.2.2.2.2))))) fun y_2=>
 ((((ae (y_2.1.1- s.2.1))<(ae (s.2.2.1- y_2.1.1)))->
 (aK (y_2.2.1,(s.2.1,(y_2.1.1,((ae (s.2.2.2.1- (1:Int))),x.2.2.2.2))))))/\
 (¬((ae (y_2.1.1- s.2.1))<(ae (s.2.2.1- y_2.1.1)))->
 (aK (y_2.2.1,((ae (y_2.1.1+(1:Int))),(s.2.2.1,((ae (s.2.2.2.1- (1:Int))),x.2.2.2.2)))))))))))))/\
 (¬(s.2.2.2.2.1=true)->
 (((s.2.1>(0:Int))->
 ((((0:Int)<=(ae (s.2.1- (1:Int))))/\ ((ae (s.2.1- (1:Int)))<(y.2.1.length:Int)))/\
 (((Int.toNat (ae (s.2.1- (1:Int))))<(List.length y.2.1))/\
 (((Int.toNat (ae (s.2.1- (1:Int))))<(List.length y.2.1))/\
 ((((0:Int)<=aq.1)/\ (aq.1<(y.2.1.length:Int)))/\
 (((Int.toNat aq.1)<(List.length y.2.1))/\
 (((Int.toNat aq.1)<(List.length y.2.1))/\
 ((bO (x.2.2.2.2,((List.getD y.2.1 (Int.toNat (ae (s.2.1- (1:Int)))) (0:Int)),(List.getD y.2.1 (Int.toNat aq.1) (0:Int)))))/\
 ay (j8 (x.2.2.2.2,((List.getD y.2.1 (Int.toNat (ae (s.2.1- (1:Int)))) (0:Int)),(List.getD y.2.1 (Int.toNat aq.1) (0:Int))))) fun y_2=>
 ((((!(decide (y_2<(0:Int))))=true)->
 (cu (y.2.1,(s.2.1,(s.2.2.1,(aq.1,x.2.2.2.2))))))/\
 (¬((!(decide (y_2<(0:Int))))=true)->
 ((bj (y.2.1,(s.2.1,(s.2.2.1,(aq.1,x.2.2.2.2)))))/\
 ay (bA (y.2.1,(s.2.1,(s.2.2.1,(aq.1,x.2.2.2.2))))) fun au=>
 ((((ae (au.1.1- s.2.1))<(ae (s.2.2.1- au.1.1)))->
 (aK (au.2.1,(s.2.1,(au.1.1,((ae (s.2.2.2.1- (1:Int))),x.2.2.2.2))))))/\
 (¬((ae (au.1.1- s.2.1))<(ae (s.2.2.1- au.1.1)))->
 (aK (au.2.1,((ae (au.1.1+(1:Int))),(s.2.2.1,((ae (s.2.2.2.1- (1:Int))),x.2.2.2.2))))))))))))))))))/\
 (¬(s.2.1>(0:Int))->
 ((bj (y.2.1,(s.2.1,(s.2.2.1,(aq.1,x.2.2.2.2)))))/\
 ay (bA (y.2.1,(s.2.1,(s.2.2.1,(aq.1,x.2.2.2.2))))) fun y_2=>
 ((((ae (y_2.1.1- s.2.1))<(ae (s.2.2.1- y_2.1.1)))->
 (aK (y_2.2.1,(s.2.1,(y_2.1.1,((ae (s.2.2.2.1- (1:Int))),x.2.2.2.2))))))/\
 (¬((ae (y_2.1.1- s.2.1))<(ae (s.2.2.1- y_2.1.1)))->
 (aK (y_2.2.1,((ae (y_2.1.1+(1:Int))),(s.2.2.1,((ae (s.2.2.2.1- (1:Int))),x.2.2.2.2)))))))))))))))))/\
 (¬((!s.2.2.2.2.1)=true)->
 ((lP (s.1,(s.2.1,(s.2.2.1,x.2.2.2.2))))/\
 ay (zF (s.1,(s.2.1,(s.2.2.1,x.2.2.2.2)))) fun y=>
 ((((y.2==(2:Int))=true)->
 ((pD (s.1,(s.2.1,(s.2.2.1,x.2.2.2.2))))/\
 ay (CT (s.1,(s.2.1,(s.2.2.1,x.2.2.2.2)))) fun aq=>
 (((s.2.2.2.2.1=true)->
 (((s.2.2.2.2.2=true)->
 ((jx (aq.2.1,(s.2.1,(s.2.2.1,x.2.2.2.2))))/\
 ay (lN (aq.2.1,(s.2.1,(s.2.2.1,x.2.2.2.2)))) fun y_2=>
 (¬(y_2.1=true)->
 (((s.2.1>(0:Int))->
 ((((0:Int)<=(ae (s.2.1- (1:Int))))/\ ((ae (s.2.1- (1:Int)))<(y_2.2.1.length:Int)))/\
 (((Int.toNat (ae (s.2.1- (1:Int))))<(List.length y_2.2.1))/\
 (((Int.toNat (ae (s.2.1- (1:Int))))<(List.length y_2.2.1))/\
 ((((0:Int)<=(ae ((ae (s.2.2.1- (1:Int)))- (ae (y.1- s.2.1)))))/\ ((ae ((ae (s.2.2.1- (1:Int)))- (ae (y.1- s.2.1))))<(y_2.2.1.length:Int)))/\
 (((Int.toNat (ae ((ae (s.2.2.1- (1:Int)))- (ae (y.1- s.2.1)))))<(List.length y_2.2.1))/\
 (((Int.toNat (ae ((ae (s.2.2.1- (1:Int)))- (ae (y.1- s.2.1)))))<(List.length y_2.2.1))/\
 ((bO (x.2.2.2.2,((List.getD y_2.2.1 (Int.toNat (ae (s.2.1- (1:Int)))) (0:Int)),(List.getD y_2.2.1 (Int.toNat (ae ((ae (s.2.2.1- (1:Int)))- (ae (y.1- s.2.1))))) (0:Int)))))/\
 ay (j8 (x.2.2.2.2,((List.getD y_2.2.1 (Int.toNat (ae (s.2.1- (1:Int)))) (0:Int)),(List.getD y_2.2.1 (Int.toNat (ae ((ae (s.2.2.1- (1:Int)))- (ae (y.1- s.2.1))))) (0:Int))))) fun au=>
 ((((!(decide (au<(0:Int))))=true)->
 (cu (y_2.2.1,(s.2.1,(s.2.2.1,((ae ((ae (s.2.2.1- (1:Int)))- (ae (y.1- s.2.1)))),x.2.2.2.2))))))/\
 (¬((!(decide (au<(0:Int))))=true)->
 ((bj (y_2.2.1,(s.2.1,(s.2.2.1,((ae ((ae (s.2.2.1- (1:Int)))- (ae (y.1- s.2.1)))),x.2.2.2.2)))))/\
 ay (bA (y_2.2.1,(s.2.1,(s.2.2.1,((ae ((ae (s.2.2.1- (1:Int)))- (ae (y.1- s.2.1)))),x.2.2.2.2))))) fun aR=>
 ((((ae (aR.1.1- s.2.1))<(ae (s.2.2.1- aR.1.1)))->
 (aK (aR.2.1,(s.2.1,(aR.1.1,(s.2.2.2.1,x.2.2.2.2))))))/\
 (¬((ae (aR.1.1- s.2.1))<(ae (s.2.2.1- aR.1.1)))->
 (aK (aR.2.1,((ae (aR.1.1+(1:Int))),(s.2.2.1,(s.2.2.2.1,x.2.2.2.2))))))))))))))))))/\
 (¬(s.2.1>(0:Int))->
 ((bj (y_2.2.1,(s.2.1,(s.2.2.1,((ae ((ae (s.2.2.1- (1:Int)))- (ae (y.1- s.2.1)))),x.2.2.2.2)))))/\
 ay (bA (y_2.2.1,(s.2.1,(s.2.2.1,((ae ((ae (s.2.2.1- (1:Int)))- (ae (y.1- s.2.1)))),x.2.2.2.2))))) fun au=>
 ((((ae (au.1.1- s.2.1))<(ae (s.2.2.1- au.1.1)))->
 (aK (au.2.1,(s.2.1,(au.1.1,(s.2.2.2.1,x.2.2.2.2))))))/\
 (¬((ae (au.1.1- s.2.1))<(ae (s.2.2.1- au.1.1)))->
 (aK (au.2.1,((ae (au.1.1+(1:Int))),(s.2.2.1,(s.2.2.2.1,x.2.2.2.2)))))))))))))/\
 (¬(s.2.2.2.2.2=true)->
 (((s.2.1>(0:Int))->
 ((((0:Int)<=(ae (s.2.1- (1:Int))))/\ ((ae (s.2.1- (1:Int)))<(aq.2.1.length:Int)))/\
 (((Int.toNat (ae (s.2.1- (1:Int))))<(List.length aq.2.1))/\
 (((Int.toNat (ae (s.2.1- (1:Int))))<(List.length aq.2.1))/\
 ((((0:Int)<=(ae ((ae (s.2.2.1- (1:Int)))- (ae (y.1- s.2.1)))))/\ ((ae ((ae (s.2.2.1- (1:Int)))- (ae (y.1- s.2.1))))<(aq.2.1.length:Int)))/\
 (((Int.toNat (ae ((ae (s.2.2.1- (1:Int)))- (ae (y.1- s.2.1)))))<(List.length aq.2.1))/\
 (((Int.toNat (ae ((ae (s.2.2.1- (1:Int)))- (ae (y.1- s.2.1)))))<(List.length aq.2.1))/\
 ((bO (x.2.2.2.2,((List.getD aq.2.1 (Int.toNat (ae (s.2.1- (1:Int)))) (0:Int)),(List.getD aq.2.1 (Int.toNat (ae ((ae (s.2.2.1- (1:Int)))- (ae (y.1- s.2.1))))) (0:Int)))))/\
 ay (j8 (x.2.2.2.2,((List.getD aq.2.1 (Int.toNat (ae (s.2.1- (1:Int)))) (0:Int)),(List.getD aq.2.1 (Int.toNat (ae ((ae (s.2.2.1- (1:Int)))- (ae (y.1- s.2.1))))) (0:Int))))) fun y_2=>
 ((((!(decide (y_2<(0:Int))))=true)->
 (cu (aq.2.1,(s.2.1,(s.2.2.1,((ae ((ae (s.2.2.1- (1:Int)))- (ae (y.1- s.2.1)))),x.2.2.2.2))))))/\
 (¬((!(decide (y_2<(0:Int))))=true)->
 ((bj (aq.2.1,(s.2.1,(s.2.2.1,((ae ((ae (s.2.2.1- (1:Int)))- (ae (y.1- s.2.1)))),x.2.2.2.2)))))/\
 ay (bA (aq.2.1,(s.2.1,(s.2.2.1,((ae ((ae (s.2.2.1- (1:Int)))- (ae (y.1- s.2.1)))),x.2.2.2.2))))) fun au=>
 ((((ae (au.1.1- s.2.1))<(ae (s.2.2.1- au.1.1)))->
 (aK (au.2.1,(s.2.1,(au.1.1,(s.2.2.2.1,x.2.2.2.2))))))/\
 (¬((ae (au.1.1- s.2.1))<(ae (s.2.2.1- au.1.1)))->
 (aK (au.2.1,((ae (au.1.1+(1:Int))),(s.2.2.1,(s.2.2.2.1,x.2.2.2.2))))))))))))))))))/\
 (¬(s.2.1>(0:Int))->
 ((bj (aq.2.1,(s.2.1,(s.2.2.1,((ae ((ae (s.2.2.1- (1:Int)))- (ae (y.1- s.2.1)))),x.2.2.2.2)))))/\
 ay (bA (aq.2.1,(s.2.1,(s.2.2.1,((ae ((ae (s.2.2.1- (1:Int)))- (ae (y.1- s.2.1)))),x.2.2.2.2))))) fun y_2=>
 ((((ae (y_2.1.1- s.2.1))<(ae (s.2.2.1- y_2.1.1)))->
 (aK (y_2.2.1,(s.2.1,(y_2.1.1,(s.2.2.2.1,x.2.2.2.2))))))/\
 (¬((ae (y_2.1.1- s.2.1))<(ae (s.2.2.1- y_2.1.1)))->
 (aK (y_2.2.1,((ae (y_2.1.1+(1:Int))),(s.2.2.1,(s.2.2.2.1,x.2.2.2.2)))))))))))))/\
 (¬(s.2.2.2.2.1=true)->
 (((s.2.1>(0:Int))->
 ((((0:Int)<=(ae (s.2.1- (1:Int))))/\ ((ae (s.2.1- (1:Int)))<(aq.2.1.length:Int)))/\
 (((Int.toNat (ae (s.2.1- (1:Int))))<(List.length aq.2.1))/\
 (((Int.toNat (ae (s.2.1- (1:Int))))<(List.length aq.2.1))/\
 ((((0:Int)<=(ae ((ae (s.2.2.1- (1:Int)))- (ae (y.1- s.2.1)))))/\ ((ae ((ae (s.2.2.1- (1:Int)))- (ae (y.1- s.2.1))))<(aq.2.1.length:Int)))/\
 (((Int.toNat (ae ((ae (s.2.2.1- (1:Int)))- (ae (y.1- s.2.1)))))<(List.length aq.2.1))/\
 (((Int.toNat (ae ((ae (s.2.2.1- (1:Int)))- (ae (y.1- s.2.1)))))<(List.length aq.2.1))/\
 ((bO (x.2.2.2.2,((List.getD aq.2.1 (Int.toNat (ae (s.2.1- (1:Int)))) (0:Int)),(List.getD aq.2.1 (Int.toNat (ae ((ae (s.2.2.1- (1:Int)))- (ae (y.1- s.2.1))))) (0:Int)))))/\
 ay (j8 (x.2.2.2.2,((List.getD aq.2.1 (Int.toNat (ae (s.2.1- (1:Int)))) (0:Int)),(List.getD aq.2.1 (Int.toNat (ae ((ae (s.2.2.1- (1:Int)))- (ae (y.1- s.2.1))))) (0:Int))))) fun y_2=>
 ((((!(decide (y_2<(0:Int))))=true)->
 (cu (aq.2.1,(s.2.1,(s.2.2.1,((ae ((ae (s.2.2.1- (1:Int)))- (ae (y.1- s.2.1)))),x.2.2.2.2))))))/\
 (¬((!(decide (y_2<(0:Int))))=true)->
 ((bj (aq.2.1,(s.2.1,(s.2.2.1,((ae ((ae (s.2.2.1- (1:Int)))- (ae (y.1- s.2.1)))),x.2.2.2.2)))))/\
 ay (bA (aq.2.1,(s.2.1,(s.2.2.1,((ae ((ae (s.2.2.1- (1:Int)))- (ae (y.1- s.2.1)))),x.2.2.2.2))))) fun au=>
 ((((ae (au.1.1- s.2.1))<(ae (s.2.2.1- au.1.1)))->
 (aK (au.2.1,(s.2.1,(au.1.1,(s.2.2.2.1,x.2.2.2.2))))))/\
 (¬((ae (au.1.1- s.2.1))<(ae (s.2.2.1- au.1.1)))->
 (aK (au.2.1,((ae (au.1.1+(1:Int))),(s.2.2.1,(s.2.2.2.1,x.2.2.2.2))))))))))))))))))/\
 (¬(s.2.1>(0:Int))->
 ((bj (aq.2.1,(s.2.1,(s.2.2.1,((ae ((ae (s.2.2.1- (1:Int)))- (ae (y.1- s.2.1)))),x.2.2.2.2)))))/\
 ay (bA (aq.2.1,(s.2.1,(s.2.2.1,((ae ((ae (s.2.2.1- (1:Int)))- (ae (y.1- s.2.1)))),x.2.2.2.2))))) fun y_2=>
 ((((ae (y_2.1.1- s.2.1))<(ae (s.2.2.1- y_2.1.1)))->
 (aK (y_2.2.1,(s.2.1,(y_2.1.1,(s.2.2.2.1,x.2.2.2.2))))))/\
 (¬((ae (y_2.1.1- s.2.1))<(ae (s.2.2.1- y_2.1.1)))->
 (aK (y_2.2.1,((ae (y_2.1.1+(1:Int))),(s.2.2.1,(s.2.2.2.1,x.2.2.2.2))))))))))))))/\
 (¬((y.2==(2:Int))=true)->
 (((s.2.2.2.2.1=true)->
 (((s.2.2.2.2.2=true)->
 ((((y.2==(1:Int))=true)->
 ((jx (s.1,(s.2.1,(s.2.2.1,x.2.2.2.2))))/\
 ay (lN (s.1,(s.2.1,(s.2.2.1,x.2.2.2.2)))) fun aq=>
 (¬(aq.1=true)->
 (((s.2.1>(0:Int))->
 ((((0:Int)<=(ae (s.2.1- (1:Int))))/\ ((ae (s.2.1- (1:Int)))<(aq.2.1.length:Int)))/\
 (((Int.toNat (ae (s.2.1- (1:Int))))<(List.length aq.2.1))/\
 (((Int.toNat (ae (s.2.1- (1:Int))))<(List.length aq.2.1))/\
 ((((0:Int)<=y.1)/\ (y.1<(aq.2.1.length:Int)))/\
 (((Int.toNat y.1)<(List.length aq.2.1))/\
 (((Int.toNat y.1)<(List.length aq.2.1))/\
 ((bO (x.2.2.2.2,((List.getD aq.2.1 (Int.toNat (ae (s.2.1- (1:Int)))) (0:Int)),(List.getD aq.2.1 (Int.toNat y.1) (0:Int)))))/\
 ay (j8 (x.2.2.2.2,((List.getD aq.2.1 (Int.toNat (ae (s.2.1- (1:Int)))) (0:Int)),(List.getD aq.2.1 (Int.toNat y.1) (0:Int))))) fun y_2=>
 ((((!(decide (y_2<(0:Int))))=true)->
 (cu (aq.2.1,(s.2.1,(s.2.2.1,(y.1,x.2.2.2.2))))))/\
 (¬((!(decide (y_2<(0:Int))))=true)->
 ((bj (aq.2.1,(s.2.1,(s.2.2.1,(y.1,x.2.2.2.2)))))/\
 ay (bA (aq.2.1,(s.2.1,(s.2.2.1,(y.1,x.2.2.2.2))))) fun au=>
 ((((ae (au.1.1- s.2.1))<(ae (s.2.2.1- au.1.1)))->
 (aK (au.2.1,(s.2.1,(au.1.1,(s.2.2.2.1,x.2.2.2.2))))))/\
 (¬((ae (au.1.1- s.2.1))<(ae (s.2.2.1- au.1.1)))->
 (aK (au.2.1,((ae (au.1.1+(1:Int))),(s.2.2.1,(s.2.2.2.1,x.2.2.2.2))))))))))))))))))/\
 (¬(s.2.1>(0:Int))->
 ((bj (aq.2.1,(s.2.1,(s.2.2.1,(y.1,x.2.2.2.2)))))/\
 ay (bA (aq.2.1,(s.2.1,(s.2.2.1,(y.1,x.2.2.2.2))))) fun y_2=>
 ((((ae (y_2.1.1- s.2.1))<(ae (s.2.2.1- y_2.1.1)))->
 (aK (y_2.2.1,(s.2.1,(y_2.1.1,(s.2.2.2.1,x.2.2.2.2))))))/\
 (¬((ae (y_2.1.1- s.2.1))<(ae (s.2.2.1- y_2.1.1)))->
 (aK (y_2.2.1,((ae (y_2.1.1+(1:Int))),(s.2.2.1,(s.2.2.2.1,x.2.2.2.2)))))))))))))/\
 (¬((y.2==(1:Int))=true)->
 (((s.2.1>(0:Int))->
 ((((0:Int)<=(ae (s.2.1- (1:Int))))/\ ((ae (s.2.1- (1:Int)))<(s.1.length:Int)))/\
 (((Int.toNat (ae (s.2.1- (1:Int))))<(List.length s.1))/\
 (((Int.toNat (ae (s.2.1- (1:Int))))<(List.length s.1))/\
 ((((0:Int)<=y.1)/\ (y.1<(s.1.length:Int)))/\
 (((Int.toNat y.1)<(List.length s.1))/\
 (((Int.toNat y.1)<(List.length s.1))/\
 ((bO (x.2.2.2.2,((List.getD s.1 (Int.toNat (ae (s.2.1- (1:Int)))) (0:Int)),(List.getD s.1 (Int.toNat y.1) (0:Int)))))/\
 ay (j8 (x.2.2.2.2,((List.getD s.1 (Int.toNat (ae (s.2.1- (1:Int)))) (0:Int)),(List.getD s.1 (Int.toNat y.1) (0:Int))))) fun aq=>
 ((((!(decide (aq<(0:Int))))=true)->
 (cu (s.1,(s.2.1,(s.2.2.1,(y.1,x.2.2.2.2))))))/\
 (¬((!(decide (aq<(0:Int))))=true)->
 ((bj (s.1,(s.2.1,(s.2.2.1,(y.1,x.2.2.2.2)))))/\
 ay (bA (s.1,(s.2.1,(s.2.2.1,(y.1,x.2.2.2.2))))) fun y_2=>
 ((((ae (y_2.1.1- s.2.1))<(ae (s.2.2.1- y_2.1.1)))->
 (aK (y_2.2.1,(s.2.1,(y_2.1.1,(s.2.2.2.1,x.2.2.2.2))))))/\
 (¬((ae (y_2.1.1- s.2.1))<(ae (s.2.2.1- y_2.1.1)))->
 (aK (y_2.2.1,((ae (y_2.1.1+(1:Int))),(s.2.2.1,(s.2.2.2.1,x.2.2.2.2))))))))))))))))))/\
 (¬(s.2.1>(0:Int))->
 ((bj (s.1,(s.2.1,(s.2.2.1,(y.1,x.2.2.2.2)))))/\
 ay (bA (s.1,(s.2.1,(s.2.2.1,(y.1,x.2.2.2.2))))) fun aq=>
 ((((ae (aq.1.1- s.2.1))<(ae (s.2.2.1- aq.1.1)))->
 (aK (aq.2.1,(s.2.1,(aq.1.1,(s.2.2.2.1,x.2.2.2.2))))))/\
 (¬((ae (aq.1.1- s.2.1))<(ae (s.2.2.1- aq.1.1)))->
 (aK (aq.2.1,((ae (aq.1.1+(1:Int))),(s.2.2.1,(s.2.2.2.1,x.2.2.2.2)))))))))))))/\
 (¬(s.2.2.2.2.2=true)->
 (((s.2.1>(0:Int))->
 ((((0:Int)<=(ae (s.2.1- (1:Int))))/\ ((ae (s.2.1- (1:Int)))<(s.1.length:Int)))/\
 (((Int.toNat (ae (s.2.1- (1:Int))))<(List.length s.1))/\
 (((Int.toNat (ae (s.2.1- (1:Int))))<(List.length s.1))/\
 ((((0:Int)<=y.1)/\ (y.1<(s.1.length:Int)))/\
 (((Int.toNat y.1)<(List.length s.1))/\
 (((Int.toNat y.1)<(List.length s.1))/\
 ((bO (x.2.2.2.2,((List.getD s.1 (Int.toNat (ae (s.2.1- (1:Int)))) (0:Int)),(List.getD s.1 (Int.toNat y.1) (0:Int)))))/\
 ay (j8 (x.2.2.2.2,((List.getD s.1 (Int.toNat (ae (s.2.1- (1:Int)))) (0:Int)),(List.getD s.1 (Int.toNat y.1) (0:Int))))) fun aq=>
 ((((!(decide (aq<(0:Int))))=true)->
 (cu (s.1,(s.2.1,(s.2.2.1,(y.1,x.2.2.2.2))))))/\
 (¬((!(decide (aq<(0:Int))))=true)->
 ((bj (s.1,(s.2.1,(s.2.2.1,(y.1,x.2.2.2.2)))))/\
 ay (bA (s.1,(s.2.1,(s.2.2.1,(y.1,x.2.2.2.2))))) fun y_2=>
 ((((ae (y_2.1.1- s.2.1))<(ae (s.2.2.1- y_2.1.1)))->
 (aK (y_2.2.1,(s.2.1,(y_2.1.1,(s.2.2.2.1,x.2.2.2.2))))))/\
 (¬((ae (y_2.1.1- s.2.1))<(ae (s.2.2.1- y_2.1.1)))->
 (aK (y_2.2.1,((ae (y_2.1.1+(1:Int))),(s.2.2.1,(s.2.2.2.1,x.2.2.2.2))))))))))))))))))/\
 (¬(s.2.1>(0:Int))->
 ((bj (s.1,(s.2.1,(s.2.2.1,(y.1,x.2.2.2.2)))))/\
 ay (bA (s.1,(s.2.1,(s.2.2.1,(y.1,x.2.2.2.2))))) fun aq=>
 ((((ae (aq.1.1- s.2.1))<(ae (s.2.2.1- aq.1.1)))->
 (aK (aq.2.1,(s.2.1,(aq.1.1,(s.2.2.2.1,x.2.2.2.2))))))/\
 (¬((ae (aq.1.1- s.2.1))<(ae (s.2.2.1- aq.1.1)))->
 (aK (aq.2.1,((ae (aq.1.1+(1:Int))),(s.2.2.1,(s.2.2.2.1,x.2.2.2.2)))))))))))))/\
 (¬(s.2.2.2.2.1=true)->
 (((s.2.1>(0:Int))->
 ((((0:Int)<=(ae (s.2.1- (1:Int))))/\ ((ae (s.2.1- (1:Int)))<(s.1.length:Int)))/\
 (((Int.toNat (ae (s.2.1- (1:Int))))<(List.length s.1))/\
 (((Int.toNat (ae (s.2.1- (1:Int))))<(List.length s.1))/\
 ((((0:Int)<=y.1)/\ (y.1<(s.1.length:Int)))/\
 (((Int.toNat y.1)<(List.length s.1))/\
 (((Int.toNat y.1)<(List.length s.1))/\
 ((bO (x.2.2.2.2,((List.getD s.1 (Int.toNat (ae (s.2.1- (1:Int)))) (0:Int)),(List.getD s.1 (Int.toNat y.1) (0:Int)))))/\
 ay (j8 (x.2.2.2.2,((List.getD s.1 (Int.toNat (ae (s.2.1- (1:Int)))) (0:Int)),(List.getD s.1 (Int.toNat y.1) (0:Int))))) fun aq=>
 ((((!(decide (aq<(0:Int))))=true)->
 (cu (s.1,(s.2.1,(s.2.2.1,(y.1,x.2.2.2.2))))))/\
 (¬((!(decide (aq<(0:Int))))=true)->
 ((bj (s.1,(s.2.1,(s.2.2.1,(y.1,x.2.2.2.2)))))/\
 ay (bA (s.1,(s.2.1,(s.2.2.1,(y.1,x.2.2.2.2))))) fun y_2=>
 ((((ae (y_2.1.1- s.2.1))<(ae (s.2.2.1- y_2.1.1)))->
 (aK (y_2.2.1,(s.2.1,(y_2.1.1,(s.2.2.2.1,x.2.2.2.2))))))/\
 (¬((ae (y_2.1.1- s.2.1))<(ae (s.2.2.1- y_2.1.1)))->
 (aK (y_2.2.1,((ae (y_2.1.1+(1:Int))),(s.2.2.1,(s.2.2.2.1,x.2.2.2.2))))))))))))))))))/\
 (¬(s.2.1>(0:Int))->
 ((bj (s.1,(s.2.1,(s.2.2.1,(y.1,x.2.2.2.2)))))/\
 ay (bA (s.1,(s.2.1,(s.2.2.1,(y.1,x.2.2.2.2))))) fun aq=>
 ((((ae (aq.1.1- s.2.1))<(ae (s.2.2.1- aq.1.1)))->
 (aK (aq.2.1,(s.2.1,(aq.1.1,(s.2.2.2.1,x.2.2.2.2))))))/\
 (¬((ae (aq.1.1- s.2.1))<(ae (s.2.2.1- aq.1.1)))->
 (aK (aq.2.1,((ae (aq.1.1+(1:Int))),(s.2.2.1,(s.2.2.2.1,x.2.2.2.2)))))))))))))))))))))
def rV (x:((List Int)×(Int×(Int×(Int×((List I9)×Int)))))) (s:((List Int)×(Int×(Int×(Int×(Bool×Bool)))))):Tr (((List Int)×(Int×(Int×(Int×(Bool×Bool)))))⊕(List Int)) true:=
 (.i11 ((ae (s.2.2.1- s.2.1))<=(12:Int))
 (.cV E5 (s.1,(s.2.1,(s.2.2.1,x.2.2.2.2))) fun y=>
 (.ret (.inr (y.2.1))))
 (.u5 (s.2.2.2.1==z0)
 (.cV zR (s.1,(s.2.1,(s.2.2.1,x.2.2.2.2))) fun y=>
 (.ret (.inr (y.2.1))))
 (.u5 (!s.2.2.2.2.1)
 (.cV EH (s.1,(s.2.1,(s.2.2.1,x.2.2.2.2))) fun y=>
 (.fn BL (y.2.1,(s.2.1,(s.2.2.1,x.2.2.2.2))) fun aq=>
 (.u5 (aq.2==(2:Int))
 (.cV BT (y.2.1,(s.2.1,(s.2.2.1,x.2.2.2.2))) fun y_2=>
 (.u5 s.2.2.2.2.1
 (.u5 s.2.2.2.2.2
 (.cV qf (y_2.2.1,(s.2.1,(s.2.2.1,x.2.2.2.2))) fun au=>
 (.zo au.1
 (.ret (.inr (au.2.1)))
 (.i11 (s.2.1>z0)
 (.cf (wm s.2.1) au.2.1
 (.cf (ae ((wm s.2.2.1)- (ae (aq.1- s.2.1)))) au.2.1
 (.fn dO (x.2.2.2.2,((gI au.2.1 (wm s.2.1)),(gI au.2.1 (ae ((wm s.2.2.1)- (ae (aq.1- s.2.1))))))) fun aR=>
 (.u5 (!(decide (aR<z0)))
 (.cV dy (au.2.1,(s.2.1,(s.2.2.1,((ae ((wm s.2.2.1)- (ae (aq.1- s.2.1)))),x.2.2.2.2)))) fun cA=>
 (.ret (.inl (cA.2.1,(cA.1,(s.2.2.1,((wm s.2.2.2.1),(s.2.2.2.2.1,s.2.2.2.2.2))))))))
 (.cV b7 (au.2.1,(s.2.1,(s.2.2.1,((ae ((wm s.2.2.1)- (ae (aq.1- s.2.1)))),x.2.2.2.2)))) fun cA=>
 (.i11 ((ae (cA.1.1- s.2.1))<(ae (s.2.2.1- cA.1.1)))
 (.cV bk (cA.2.1,(s.2.1,(cA.1.1,((wm s.2.2.2.1),x.2.2.2.2)))) fun Ic=>
 (.ret (.inl (Ic.2.1,((w1 cA.1.1),(s.2.2.1,((wm s.2.2.2.1),((decide ((ae (cA.1.1- s.2.1))>=(ae (Int.tdiv (ae (s.2.2.1- s.2.1)) (8:Int))))),cA.1.2))))))))
 (.cV bk (cA.2.1,((w1 cA.1.1),(s.2.2.1,((wm s.2.2.2.1),x.2.2.2.2)))) fun Ic=>
 (.ret (.inl (Ic.2.1,(s.2.1,(cA.1.1,((wm s.2.2.2.1),((decide ((ae (s.2.2.1- cA.1.1))>=(ae (Int.tdiv (ae (s.2.2.1- s.2.1)) (8:Int))))),cA.1.2))))))))))))))
 (.cV b7 (au.2.1,(s.2.1,(s.2.2.1,((ae ((wm s.2.2.1)- (ae (aq.1- s.2.1)))),x.2.2.2.2)))) fun aR=>
 (.i11 ((ae (aR.1.1- s.2.1))<(ae (s.2.2.1- aR.1.1)))
 (.cV bk (aR.2.1,(s.2.1,(aR.1.1,((wm s.2.2.2.1),x.2.2.2.2)))) fun cA=>
 (.ret (.inl (cA.2.1,((w1 aR.1.1),(s.2.2.1,((wm s.2.2.2.1),((decide ((ae (aR.1.1- s.2.1))>=(ae (Int.tdiv (ae (s.2.2.1- s.2.1)) (8:Int))))),aR.1.2))))))))
 (.cV bk (aR.2.1,((w1 aR.1.1),(s.2.2.1,((wm s.2.2.2.1),x.2.2.2.2)))) fun cA=>
 (.ret (.inl (cA.2.1,(s.2.1,(aR.1.1,((wm s.2.2.2.1),((decide ((ae (s.2.2.1- aR.1.1))>=(ae (Int.tdiv (ae (s.2.2.1- s.2.1)) (8:Int))))),aR.1.2)))))))))))))
 (.i11 (s.2.1>z0)
 (.cf (wm s.2.1) y_2.2.1
 (.cf (ae ((wm s.2.2.1)- (ae (aq.1- s.2.1)))) y_2.2.1
 (.fn dO (x.2.2.2.2,((gI y_2.2.1 (wm s.2.1)),(gI y_2.2.1 (ae ((wm s.2.2.1)- (ae (aq.1- s.2.1))))))) fun au=>
 (.u5 (!(decide (au<z0)))
 (.cV dy (y_2.2.1,(s.2.1,(s.2.2.1,((ae ((wm s.2.2.1)- (ae (aq.1- s.2.1)))),x.2.2.2.2)))) fun aR=>
 (.ret (.inl (aR.2.1,(aR.1,(s.2.2.1,((wm s.2.2.2.1),(s.2.2.2.2.1,s.2.2.2.2.2))))))))
 (.cV b7 (y_2.2.1,(s.2.1,(s.2.2.1,((ae ((wm s.2.2.1)- (ae (aq.1- s.2.1)))),x.2.2.2.2)))) fun aR=>
 (.i11 ((ae (aR.1.1- s.2.1))<(ae (s.2.2.1- aR.1.1)))
 (.cV bk (aR.2.1,(s.2.1,(aR.1.1,((wm s.2.2.2.1),x.2.2.2.2)))) fun cA=>
 (.ret (.inl (cA.2.1,((w1 aR.1.1),(s.2.2.1,((wm s.2.2.2.1),((decide ((ae (aR.1.1- s.2.1))>=(ae (Int.tdiv (ae (s.2.2.1- s.2.1)) (8:Int))))),aR.1.2))))))))
 (.cV bk (aR.2.1,((w1 aR.1.1),(s.2.2.1,((wm s.2.2.2.1),x.2.2.2.2)))) fun cA=>
 (.ret (.inl (cA.2.1,(s.2.1,(aR.1.1,((wm s.2.2.2.1),((decide ((ae (s.2.2.1- aR.1.1))>=(ae (Int.tdiv (ae (s.2.2.1- s.2.1)) (8:Int))))),aR.1.2))))))))))))))
 (.cV b7 (y_2.2.1,(s.2.1,(s.2.2.1,((ae ((wm s.2.2.1)- (ae (aq.1- s.2.1)))),x.2.2.2.2)))) fun au=>
 (.i11 ((ae (au.1.1- s.2.1))<(ae (s.2.2.1- au.1.1)))
 (.cV bk (au.2.1,(s.2.1,(au.1.1,((wm s.2.2.2.1),x.2.2.2.2)))) fun aR=>
 (.ret (.inl (aR.2.1,((w1 au.1.1),(s.2.2.1,((wm s.2.2.2.1),((decide ((ae (au.1.1- s.2.1))>=(ae (Int.tdiv (ae (s.2.2.1- s.2.1)) (8:Int))))),au.1.2))))))))
 (.cV bk (au.2.1,((w1 au.1.1),(s.2.2.1,((wm s.2.2.2.1),x.2.2.2.2)))) fun aR=>
 (.ret (.inl (aR.2.1,(s.2.1,(au.1.1,((wm s.2.2.2.1),((decide ((ae (s.2.2.1- au.1.1))>=(ae (Int.tdiv (ae (s.2.2.1- s.2.1)) (8:Int))))),au.1.2))))))))))))
 (.i11 (s.2.1>z0)
 (.cf (wm s.2.1) y_2.2.1
 (.cf (ae ((wm s.2.2.1)- (ae (aq.1- s.2.1)))) y_2.2.1
 (.fn dO (x.2.2.2.2,((gI y_2.2.1 (wm s.2.1)),(gI y_2.2.1 (ae ((wm s.2.2.1)- (ae (aq.1- s.2.1))))))) fun au=>
 (.u5 (!(decide (au<z0)))
 (.cV dy (y_2.2.1,(s.2.1,(s.2.2.1,((ae ((wm s.2.2.1)- (ae (aq.1- s.2.1)))),x.2.2.2.2)))) fun aR=>
 (.ret (.inl (aR.2.1,(aR.1,(s.2.2.1,((wm s.2.2.2.1),(s.2.2.2.2.1,s.2.2.2.2.2))))))))
 (.cV b7 (y_2.2.1,(s.2.1,(s.2.2.1,((ae ((wm s.2.2.1)- (ae (aq.1- s.2.1)))),x.2.2.2.2)))) fun aR=>
 (.i11 ((ae (aR.1.1- s.2.1))<(ae (s.2.2.1- aR.1.1)))
 (.cV bk (aR.2.1,(s.2.1,(aR.1.1,((wm s.2.2.2.1),x.2.2.2.2)))) fun cA=>
 (.ret (.inl (cA.2.1,((w1 aR.1.1),(s.2.2.1,((wm s.2.2.2.1),((decide ((ae (aR.1.1- s.2.1))>=(ae (Int.tdiv (ae (s.2.2.1- s.2.1)) (8:Int))))),aR.1.2))))))))
 (.cV bk (aR.2.1,((w1 aR.1.1),(s.2.2.1,((wm s.2.2.2.1),x.2.2.2.2)))) fun cA=>
 (.ret (.inl (cA.2.1,(s.2.1,(aR.1.1,((wm s.2.2.2.1),((decide ((ae (s.2.2.1- aR.1.1))>=(ae (Int.tdiv (ae (s.2.2.1- s.2.1)) (8:Int))))),aR.1.2))))))))))))))
 (.cV b7 (y_2.2.1,(s.2.1,(s.2.2.1,((ae ((wm s.2.2.1)- (ae (aq.1- s.2.1)))),x.2.2.2.2)))) fun au=>
 (.i11 ((ae (au.1.1- s.2.1))<(ae (s.2.2.1- au.1.1)))
 (.cV bk (au.2.1,(s.2.1,(au.1.1,((wm s.2.2.2.1),x.2.2.2.2)))) fun aR=>
 (.ret (.inl (aR.2.1,((w1 au.1.1),(s.2.2.1,((wm s.2.2.2.1),((decide ((ae (au.1.1- s.2.1))>=(ae (Int.tdiv (ae (s.2.2.1- s.2.1)) (8:Int))))),au.1.2))))))))
 (.cV bk (au.2.1,((w1 au.1.1),(s.2.2.1,((wm s.2.2.2.1),x.2.2.2.2)))) fun aR=>
 (.ret (.inl (aR.2.1,(s.2.1,(au.1.1,((wm s.2.2.2.1),((decide ((ae (s.2.2.1- au.1.1))>=(ae (Int.tdiv (ae (s.2.2.1- s.2.1)) (8:Int))))),au.1.2)))))))))))))
 (.u5 s.2.2.2.2.1
 (.u5 s.2.2.2.2.2
 (.u5 (aq.2==z1)
 (.cV qf (y.2.1,(s.2.1,(s.2.2.1,x.2.2.2.2))) fun y_2=>
 (.zo y_2.1
 (.ret (.inr (y_2.2.1)))
 (.i11 (s.2.1>z0)
 (.cf (wm s.2.1) y_2.2.1
 (.cf aq.1 y_2.2.1
 (.fn dO (x.2.2.2.2,((gI y_2.2.1 (wm s.2.1)),(gI y_2.2.1 aq.1))) fun au=>
 (.u5 (!(decide (au<z0)))
 (.cV dy (y_2.2.1,(s.2.1,(s.2.2.1,(aq.1,x.2.2.2.2)))) fun aR=>
 (.ret (.inl (aR.2.1,(aR.1,(s.2.2.1,((wm s.2.2.2.1),(s.2.2.2.2.1,s.2.2.2.2.2))))))))
 (.cV b7 (y_2.2.1,(s.2.1,(s.2.2.1,(aq.1,x.2.2.2.2)))) fun aR=>
 (.i11 ((ae (aR.1.1- s.2.1))<(ae (s.2.2.1- aR.1.1)))
 (.cV bk (aR.2.1,(s.2.1,(aR.1.1,((wm s.2.2.2.1),x.2.2.2.2)))) fun cA=>
 (.ret (.inl (cA.2.1,((w1 aR.1.1),(s.2.2.1,((wm s.2.2.2.1),((decide ((ae (aR.1.1- s.2.1))>=(ae (Int.tdiv (ae (s.2.2.1- s.2.1)) (8:Int))))),aR.1.2))))))))
 (.cV bk (aR.2.1,((w1 aR.1.1),(s.2.2.1,((wm s.2.2.2.1),x.2.2.2.2)))) fun cA=>
 (.ret (.inl (cA.2.1,(s.2.1,(aR.1.1,((wm s.2.2.2.1),((decide ((ae (s.2.2.1- aR.1.1))>=(ae (Int.tdiv (ae (s.2.2.1- s.2.1)) (8:Int))))),aR.1.2))))))))))))))
 (.cV b7 (y_2.2.1,(s.2.1,(s.2.2.1,(aq.1,x.2.2.2.2)))) fun au=>
 (.i11 ((ae (au.1.1- s.2.1))<(ae (s.2.2.1- au.1.1)))
 (.cV bk (au.2.1,(s.2.1,(au.1.1,((wm s.2.2.2.1),x.2.2.2.2)))) fun aR=>
 (.ret (.inl (aR.2.1,((w1 au.1.1),(s.2.2.1,((wm s.2.2.2.1),((decide ((ae (au.1.1- s.2.1))>=(ae (Int.tdiv (ae (s.2.2.1- s.2.1)) (8:Int))))),au.1.2))))))))
 (.cV bk (au.2.1,((w1 au.1.1),(s.2.2.1,((wm s.2.2.2.1),x.2.2.2.2)))) fun aR=>
 (.ret (.inl (aR.2.1,(s.2.1,(au.1.1,((wm s.2.2.2.1),((decide ((ae (s.2.2.1- au.1.1))>=(ae (Int.tdiv (ae (s.2.2.1- s.2.1)) (8:Int))))),au.1.2)))))))))))))
 (.i11 (s.2.1>z0)
 (.cf (wm s.2.1) y.2.1
 (.cf aq.1 y.2.1
 (.fn dO (x.2.2.2.2,((gI y.2.1 (wm s.2.1)),(gI y.2.1 aq.1))) fun y_2=>
 (.u5 (!(decide (y_2<z0)))
 (.cV dy (y.2.1,(s.2.1,(s.2.2.1,(aq.1,x.2.2.2.2)))) fun au=>
 (.ret (.inl (au.2.1,(au.1,(s.2.2.1,((wm s.2.2.2.1),(s.2.2.2.2.1,s.2.2.2.2.2))))))))
 (.cV b7 (y.2.1,(s.2.1,(s.2.2.1,(aq.1,x.2.2.2.2)))) fun au=>
 (.i11 ((ae (au.1.1- s.2.1))<(ae (s.2.2.1- au.1.1)))
 (.cV bk (au.2.1,(s.2.1,(au.1.1,((wm s.2.2.2.1),x.2.2.2.2)))) fun aR=>
 (.ret (.inl (aR.2.1,((w1 au.1.1),(s.2.2.1,((wm s.2.2.2.1),((decide ((ae (au.1.1- s.2.1))>=(ae (Int.tdiv (ae (s.2.2.1- s.2.1)) (8:Int))))),au.1.2))))))))
 (.cV bk (au.2.1,((w1 au.1.1),(s.2.2.1,((wm s.2.2.2.1),x.2.2.2.2)))) fun aR=>
 (.ret (.inl (aR.2.1,(s.2.1,(au.1.1,((wm s.2.2.2.1),((decide ((ae (s.2.2.1- au.1.1))>=(ae (Int.tdiv (ae (s.2.2.1- s.2.1)) (8:Int))))),au.1.2))))))))))))))
 (.cV b7 (y.2.1,(s.2.1,(s.2.2.1,(aq.1,x.2.2.2.2)))) fun y_2=>
 (.i11 ((ae (y_2.1.1- s.2.1))<(ae (s.2.2.1- y_2.1.1)))
 (.cV bk (y_2.2.1,(s.2.1,(y_2.1.1,((wm s.2.2.2.1),x.2.2.2.2)))) fun au=>
 (.ret (.inl (au.2.1,((w1 y_2.1.1),(s.2.2.1,((wm s.2.2.2.1),((decide ((ae (y_2.1.1- s.2.1))>=(ae (Int.tdiv (ae (s.2.2.1- s.2.1)) (8:Int))))),y_2.1.2))))))))
 (.cV bk (y_2.2.1,((w1 y_2.1.1),(s.2.2.1,((wm s.2.2.2.1),x.2.2.2.2)))) fun au=>
 (.ret (.inl (au.2.1,(s.2.1,(y_2.1.1,((wm s.2.2.2.1),((decide ((ae (s.2.2.1- y_2.1.1))>=(ae (Int.tdiv (ae (s.2.2.1- s.2.1)) (8:Int))))),y_2.1.2))))))))))))
 (.i11 (s.2.1>z0)
 (.cf (wm s.2.1) y.2.1
 (.cf aq.1 y.2.1
 (.fn dO (x.2.2.2.2,((gI y.2.1 (wm s.2.1)),(gI y.2.1 aq.1))) fun y_2=>
 (.u5 (!(decide (y_2<z0)))
 (.cV dy (y.2.1,(s.2.1,(s.2.2.1,(aq.1,x.2.2.2.2)))) fun au=>
 (.ret (.inl (au.2.1,(au.1,(s.2.2.1,((wm s.2.2.2.1),(s.2.2.2.2.1,s.2.2.2.2.2))))))))
 (.cV b7 (y.2.1,(s.2.1,(s.2.2.1,(aq.1,x.2.2.2.2)))) fun au=>
 (.i11 ((ae (au.1.1- s.2.1))<(ae (s.2.2.1- au.1.1)))
 (.cV bk (au.2.1,(s.2.1,(au.1.1,((wm s.2.2.2.1),x.2.2.2.2)))) fun aR=>
 (.ret (.inl (aR.2.1,((w1 au.1.1),(s.2.2.1,((wm s.2.2.2.1),((decide ((ae (au.1.1- s.2.1))>=(ae (Int.tdiv (ae (s.2.2.1- s.2.1)) (8:Int))))),au.1.2))))))))
 (.cV bk (au.2.1,((w1 au.1.1),(s.2.2.1,((wm s.2.2.2.1),x.2.2.2.2)))) fun aR=>
 (.ret (.inl (aR.2.1,(s.2.1,(au.1.1,((wm s.2.2.2.1),((decide ((ae (s.2.2.1- au.1.1))>=(ae (Int.tdiv (ae (s.2.2.1- s.2.1)) (8:Int))))),au.1.2))))))))))))))
 (.cV b7 (y.2.1,(s.2.1,(s.2.2.1,(aq.1,x.2.2.2.2)))) fun y_2=>
 (.i11 ((ae (y_2.1.1- s.2.1))<(ae (s.2.2.1- y_2.1.1)))
 (.cV bk (y_2.2.1,(s.2.1,(y_2.1.1,((wm s.2.2.2.1),x.2.2.2.2)))) fun au=>
 (.ret (.inl (au.2.1,((w1 y_2.1.1),(s.2.2.1,((wm s.2.2.2.1),((decide ((ae (y_2.1.1- s.2.1))>=(ae (Int.tdiv (ae (s.2.2.1- s.2.1)) (8:Int))))),y_2.1.2))))))))
 (.cV bk (y_2.2.1,((w1 y_2.1.1),(s.2.2.1,((wm s.2.2.2.1),x.2.2.2.2)))) fun au=>
 (.ret (.inl (au.2.1,(s.2.1,(y_2.1.1,((wm s.2.2.2.1),((decide ((ae (s.2.2.1- y_2.1.1))>=(ae (Int.tdiv (ae (s.2.2.1- s.2.1)) (8:Int))))),y_2.1.2))))))))))))
 (.i11 (s.2.1>z0)
 (.cf (wm s.2.1) y.2.1
 (.cf aq.1 y.2.1
 (.fn dO (x.2.2.2.2,((gI y.2.1 (wm s.2.1)),(gI y.2.1 aq.1))) fun y_2=>
 (.u5 (!(decide (y_2<z0)))
 (.cV dy (y.2.1,(s.2.1,(s.2.2.1,(aq.1,x.2.2.2.2)))) fun au=>
 (.ret (.inl (au.2.1,(au.1,(s.2.2.1,((wm s.2.2.2.1),(s.2.2.2.2.1,s.2.2.2.2.2))))))))
 (.cV b7 (y.2.1,(s.2.1,(s.2.2.1,(aq.1,x.2.2.2.2)))) fun au=>
 (.i11 ((ae (au.1.1- s.2.1))<(ae (s.2.2.1- au.1.1)))
 (.cV bk (au.2.1,(s.2.1,(au.1.1,((wm s.2.2.2.1),x.2.2.2.2)))) fun aR=>
 (.ret (.inl (aR.2.1,((w1 au.1.1),(s.2.2.1,((wm s.2.2.2.1),((decide ((ae (au.1.1- s.2.1))>=(ae (Int.tdiv (ae (s.2.2.1- s.2.1)) (8:Int))))),au.1.2))))))))
 (.cV bk (au.2.1,((w1 au.1.1),(s.2.2.1,((wm s.2.2.2.1),x.2.2.2.2)))) fun aR=>
 (.ret (.inl (aR.2.1,(s.2.1,(au.1.1,((wm s.2.2.2.1),((decide ((ae (s.2.2.1- au.1.1))>=(ae (Int.tdiv (ae (s.2.2.1- s.2.1)) (8:Int))))),au.1.2))))))))))))))
 (.cV b7 (y.2.1,(s.2.1,(s.2.2.1,(aq.1,x.2.2.2.2)))) fun y_2=>
 (.i11 ((ae (y_2.1.1- s.2.1))<(ae (s.2.2.1- y_2.1.1)))
 (.cV bk (y_2.2.1,(s.2.1,(y_2.1.1,((wm s.2.2.2.1),x.2.2.2.2)))) fun au=>
 (.ret (.inl (au.2.1,((w1 y_2.1.1),(s.2.2.1,((wm s.2.2.2.1),((decide ((ae (y_2.1.1- s.2.1))>=(ae (Int.tdiv (ae (s.2.2.1- s.2.1)) (8:Int))))),y_2.1.2))))))))
 (.cV bk (y_2.2.1,((w1 y_2.1.1),(s.2.2.1,((wm s.2.2.2.1),x.2.2.2.2)))) fun au=>
 (.ret (.inl (au.2.1,(s.2.1,(y_2.1.1,((wm s.2.2.2.1),((decide ((ae (s.2.2.1- y_2.1.1))>=(ae (Int.tdiv (ae (s.2.2.1- s.2.1)) (8:Int))))),y_2.1.2)))))))))))))))
 (.fn BL (s.1,(s.2.1,(s.2.2.1,x.2.2.2.2))) fun y=>
 (.u5 (y.2==(2:Int))
 (.cV BT (s.1,(s.2.1,(s.2.2.1,x.2.2.2.2))) fun aq=>
 (.u5 s.2.2.2.2.1
 (.u5 s.2.2.2.2.2
 (.cV qf (aq.2.1,(s.2.1,(s.2.2.1,x.2.2.2.2))) fun y_2=>
 (.zo y_2.1
 (.ret (.inr (y_2.2.1)))
 (.i11 (s.2.1>z0)
 (.cf (wm s.2.1) y_2.2.1
 (.cf (ae ((wm s.2.2.1)- (ae (y.1- s.2.1)))) y_2.2.1
 (.fn dO (x.2.2.2.2,((gI y_2.2.1 (wm s.2.1)),(gI y_2.2.1 (ae ((wm s.2.2.1)- (ae (y.1- s.2.1))))))) fun au=>
 (.u5 (!(decide (au<z0)))
 (.cV dy (y_2.2.1,(s.2.1,(s.2.2.1,((ae ((wm s.2.2.1)- (ae (y.1- s.2.1)))),x.2.2.2.2)))) fun aR=>
 (.ret (.inl (aR.2.1,(aR.1,(s.2.2.1,(s.2.2.2.1,(s.2.2.2.2.1,s.2.2.2.2.2))))))))
 (.cV b7 (y_2.2.1,(s.2.1,(s.2.2.1,((ae ((wm s.2.2.1)- (ae (y.1- s.2.1)))),x.2.2.2.2)))) fun aR=>
 (.i11 ((ae (aR.1.1- s.2.1))<(ae (s.2.2.1- aR.1.1)))
 (.cV bk (aR.2.1,(s.2.1,(aR.1.1,(s.2.2.2.1,x.2.2.2.2)))) fun cA=>
 (.ret (.inl (cA.2.1,((w1 aR.1.1),(s.2.2.1,(s.2.2.2.1,((decide ((ae (aR.1.1- s.2.1))>=(ae (Int.tdiv (ae (s.2.2.1- s.2.1)) (8:Int))))),aR.1.2))))))))
 (.cV bk (aR.2.1,((w1 aR.1.1),(s.2.2.1,(s.2.2.2.1,x.2.2.2.2)))) fun cA=>
 (.ret (.inl (cA.2.1,(s.2.1,(aR.1.1,(s.2.2.2.1,((decide ((ae (s.2.2.1- aR.1.1))>=(ae (Int.tdiv (ae (s.2.2.1- s.2.1)) (8:Int))))),aR.1.2))))))))))))))
 (.cV b7 (y_2.2.1,(s.2.1,(s.2.2.1,((ae ((wm s.2.2.1)- (ae (y.1- s.2.1)))),x.2.2.2.2)))) fun au=>
 (.i11 ((ae (au.1.1- s.2.1))<(ae (s.2.2.1- au.1.1)))
 (.cV bk (au.2.1,(s.2.1,(au.1.1,(s.2.2.2.1,x.2.2.2.2)))) fun aR=>
 (.ret (.inl (aR.2.1,((w1 au.1.1),(s.2.2.1,(s.2.2.2.1,((decide ((ae (au.1.1- s.2.1))>=(ae (Int.tdiv (ae (s.2.2.1- s.2.1)) (8:Int))))),au.1.2))))))))
 (.cV bk (au.2.1,((w1 au.1.1),(s.2.2.1,(s.2.2.2.1,x.2.2.2.2)))) fun aR=>
 (.ret (.inl (aR.2.1,(s.2.1,(au.1.1,(s.2.2.2.1,((decide ((ae (s.2.2.1- au.1.1))>=(ae (Int.tdiv (ae (s.2.2.1- s.2.1)) (8:Int))))),au.1.2)))))))))))))
 (.i11 (s.2.1>z0)
 (.cf (wm s.2.1) aq.2.1
 (.cf (ae ((wm s.2.2.1)- (ae (y.1- s.2.1)))) aq.2.1
 (.fn dO (x.2.2.2.2,((gI aq.2.1 (wm s.2.1)),(gI aq.2.1 (ae ((wm s.2.2.1)- (ae (y.1- s.2.1))))))) fun y_2=>
 (.u5 (!(decide (y_2<z0)))
 (.cV dy (aq.2.1,(s.2.1,(s.2.2.1,((ae ((wm s.2.2.1)- (ae (y.1- s.2.1)))),x.2.2.2.2)))) fun au=>
 (.ret (.inl (au.2.1,(au.1,(s.2.2.1,(s.2.2.2.1,(s.2.2.2.2.1,s.2.2.2.2.2))))))))
 (.cV b7 (aq.2.1,(s.2.1,(s.2.2.1,((ae ((wm s.2.2.1)- (ae (y.1- s.2.1)))),x.2.2.2.2)))) fun au=>
 (.i11 ((ae (au.1.1- s.2.1))<(ae (s.2.2.1- au.1.1)))
 (.cV bk (au.2.1,(s.2.1,(au.1.1,(s.2.2.2.1,x.2.2.2.2)))) fun aR=>
 (.ret (.inl (aR.2.1,((w1 au.1.1),(s.2.2.1,(s.2.2.2.1,((decide ((ae (au.1.1- s.2.1))>=(ae (Int.tdiv (ae (s.2.2.1- s.2.1)) (8:Int))))),au.1.2))))))))
 (.cV bk (au.2.1,((w1 au.1.1),(s.2.2.1,(s.2.2.2.1,x.2.2.2.2)))) fun aR=>
 (.ret (.inl (aR.2.1,(s.2.1,(au.1.1,(s.2.2.2.1,((decide ((ae (s.2.2.1- au.1.1))>=(ae (Int.tdiv (ae (s.2.2.1- s.2.1)) (8:Int))))),au.1.2))))))))))))))
 (.cV b7 (aq.2.1,(s.2.1,(s.2.2.1,((ae ((wm s.2.2.1)- (ae (y.1- s.2.1)))),x.2.2.2.2)))) fun y_2=>
 (.i11 ((ae (y_2.1.1- s.2.1))<(ae (s.2.2.1- y_2.1.1)))
 (.cV bk (y_2.2.1,(s.2.1,(y_2.1.1,(s.2.2.2.1,x.2.2.2.2)))) fun au=>
 (.ret (.inl (au.2.1,((w1 y_2.1.1),(s.2.2.1,(s.2.2.2.1,((decide ((ae (y_2.1.1- s.2.1))>=(ae (Int.tdiv (ae (s.2.2.1- s.2.1)) (8:Int))))),y_2.1.2))))))))
 (.cV bk (y_2.2.1,((w1 y_2.1.1),(s.2.2.1,(s.2.2.2.1,x.2.2.2.2)))) fun au=>
 (.ret (.inl (au.2.1,(s.2.1,(y_2.1.1,(s.2.2.2.1,((decide ((ae (s.2.2.1- y_2.1.1))>=(ae (Int.tdiv (ae (s.2.2.1- s.2.1)) (8:Int))))),y_2.1.2))))))))))))
 (.i11 (s.2.1>z0)
 (.cf (wm s.2.1) aq.2.1
 (.cf (ae ((wm s.2.2.1)- (ae (y.1- s.2.1)))) aq.2.1
 (.fn dO (x.2.2.2.2,((gI aq.2.1 (wm s.2.1)),(gI aq.2.1 (ae ((wm s.2.2.1)- (ae (y.1- s.2.1))))))) fun y_2=>
 (.u5 (!(decide (y_2<z0)))
 (.cV dy (aq.2.1,(s.2.1,(s.2.2.1,((ae ((wm s.2.2.1)- (ae (y.1- s.2.1)))),x.2.2.2.2)))) fun au=>
 (.ret (.inl (au.2.1,(au.1,(s.2.2.1,(s.2.2.2.1,(s.2.2.2.2.1,s.2.2.2.2.2))))))))
 (.cV b7 (aq.2.1,(s.2.1,(s.2.2.1,((ae ((wm s.2.2.1)- (ae (y.1- s.2.1)))),x.2.2.2.2)))) fun au=>
 (.i11 ((ae (au.1.1- s.2.1))<(ae (s.2.2.1- au.1.1)))
 (.cV bk (au.2.1,(s.2.1,(au.1.1,(s.2.2.2.1,x.2.2.2.2)))) fun aR=>
 (.ret (.inl (aR.2.1,((w1 au.1.1),(s.2.2.1,(s.2.2.2.1,((decide ((ae (au.1.1- s.2.1))>=(ae (Int.tdiv (ae (s.2.2.1- s.2.1)) (8:Int))))),au.1.2))))))))
 (.cV bk (au.2.1,((w1 au.1.1),(s.2.2.1,(s.2.2.2.1,x.2.2.2.2)))) fun aR=>
 (.ret (.inl (aR.2.1,(s.2.1,(au.1.1,(s.2.2.2.1,((decide ((ae (s.2.2.1- au.1.1))>=(ae (Int.tdiv (ae (s.2.2.1- s.2.1)) (8:Int))))),au.1.2))))))))))))))
 (.cV b7 (aq.2.1,(s.2.1,(s.2.2.1,((ae ((wm s.2.2.1)- (ae (y.1- s.2.1)))),x.2.2.2.2)))) fun y_2=>
 (.i11 ((ae (y_2.1.1- s.2.1))<(ae (s.2.2.1- y_2.1.1)))
 (.cV bk (y_2.2.1,(s.2.1,(y_2.1.1,(s.2.2.2.1,x.2.2.2.2)))) fun au=>
 (.ret (.inl (au.2.1,((w1 y_2.1.1),(s.2.2.1,(s.2.2.2.1,((decide ((ae (y_2.1.1- s.2.1))>=(ae (Int.tdiv (ae (s.2.2.1- s.2.1)) (8:Int))))),y_2.1.2))))))))
 (.cV bk (y_2.2.1,((w1 y_2.1.1),(s.2.2.1,(s.2.2.2.1,x.2.2.2.2)))) fun au=>
 (.ret (.inl (au.2.1,(s.2.1,(y_2.1.1,(s.2.2.2.1,((decide ((ae (s.2.2.1- y_2.1.1))>=(ae (Int.tdiv (ae (s.2.2.1- s.2.1)) (8:Int))))),y_2.1.2)))))))))))))
 (.u5 s.2.2.2.2.1
 (.u5 s.2.2.2.2.2
 (.u5 (y.2==z1)
 (.cV qf (s.1,(s.2.1,(s.2.2.1,x.2.2.2.2))) fun aq=>
 (.zo aq.1
 (.ret (.inr (aq.2.1)))
 (.i11 (s.2.1>z0)
 (.cf (wm s.2.1) aq.2.1
 (.cf y.1 aq.2.1
 (.fn dO (x.2.2.2.2,((gI aq.2.1 (wm s.2.1)),(gI aq.2.1 y.1))) fun y_2=>
 (.u5 (!(decide (y_2<z0)))
 (.cV dy (aq.2.1,(s.2.1,(s.2.2.1,(y.1,x.2.2.2.2)))) fun au=>
 (.ret (.inl (au.2.1,(au.1,(s.2.2.1,(s.2.2.2.1,(s.2.2.2.2.1,s.2.2.2.2.2))))))))
 (.cV b7 (aq.2.1,(s.2.1,(s.2.2.1,(y.1,x.2.2.2.2)))) fun au=>
 (.i11 ((ae (au.1.1- s.2.1))<(ae (s.2.2.1- au.1.1)))
 (.cV bk (au.2.1,(s.2.1,(au.1.1,(s.2.2.2.1,x.2.2.2.2)))) fun aR=>
 (.ret (.inl (aR.2.1,((w1 au.1.1),(s.2.2.1,(s.2.2.2.1,((decide ((ae (au.1.1- s.2.1))>=(ae (Int.tdiv (ae (s.2.2.1- s.2.1)) (8:Int))))),au.1.2))))))))
 (.cV bk (au.2.1,((w1 au.1.1),(s.2.2.1,(s.2.2.2.1,x.2.2.2.2)))) fun aR=>
 (.ret (.inl (aR.2.1,(s.2.1,(au.1.1,(s.2.2.2.1,((decide ((ae (s.2.2.1- au.1.1))>=(ae (Int.tdiv (ae (s.2.2.1- s.2.1)) (8:Int))))),au.1.2))))))))))))))
 (.cV b7 (aq.2.1,(s.2.1,(s.2.2.1,(y.1,x.2.2.2.2)))) fun y_2=>
 (.i11 ((ae (y_2.1.1- s.2.1))<(ae (s.2.2.1- y_2.1.1)))
 (.cV bk (y_2.2.1,(s.2.1,(y_2.1.1,(s.2.2.2.1,x.2.2.2.2)))) fun au=>
 (.ret (.inl (au.2.1,((w1 y_2.1.1),(s.2.2.1,(s.2.2.2.1,((decide ((ae (y_2.1.1- s.2.1))>=(ae (Int.tdiv (ae (s.2.2.1- s.2.1)) (8:Int))))),y_2.1.2))))))))
 (.cV bk (y_2.2.1,((w1 y_2.1.1),(s.2.2.1,(s.2.2.2.1,x.2.2.2.2)))) fun au=>
 (.ret (.inl (au.2.1,(s.2.1,(y_2.1.1,(s.2.2.2.1,((decide ((ae (s.2.2.1- y_2.1.1))>=(ae (Int.tdiv (ae (s.2.2.1- s.2.1)) (8:Int))))),y_2.1.2)))))))))))))
 (.i11 (s.2.1>z0)
 (.cf (wm s.2.1) s.1
 (.cf y.1 s.1
 (.fn dO (x.2.2.2.2,((gI s.1 (wm s.2.1)),(gI s.1 y.1))) fun aq=>
 (.u5 (!(decide (aq<z0)))
 (.cV dy (s.1,(s.2.1,(s.2.2.1,(y.1,x.2.2.2.2)))) fun y_2=>
 (.ret (.inl (y_2.2.1,(y_2.1,(s.2.2.1,(s.2.2.2.1,(s.2.2.2.2.1,s.2.2.2.2.2))))))))
 (.cV b7 (s.1,(s.2.1,(s.2.2.1,(y.1,x.2.2.2.2)))) fun y_2=>
 (.i11 ((ae (y_2.1.1- s.2.1))<(ae (s.2.2.1- y_2.1.1)))
 (.cV bk (y_2.2.1,(s.2.1,(y_2.1.1,(s.2.2.2.1,x.2.2.2.2)))) fun au=>
 (.ret (.inl (au.2.1,((w1 y_2.1.1),(s.2.2.1,(s.2.2.2.1,((decide ((ae (y_2.1.1- s.2.1))>=(ae (Int.tdiv (ae (s.2.2.1- s.2.1)) (8:Int))))),y_2.1.2))))))))
 (.cV bk (y_2.2.1,((w1 y_2.1.1),(s.2.2.1,(s.2.2.2.1,x.2.2.2.2)))) fun au=>
 (.ret (.inl (au.2.1,(s.2.1,(y_2.1.1,(s.2.2.2.1,((decide ((ae (s.2.2.1- y_2.1.1))>=(ae (Int.tdiv (ae (s.2.2.1- s.2.1)) (8:Int))))),y_2.1.2))))))))))))))
 (.cV b7 (s.1,(s.2.1,(s.2.2.1,(y.1,x.2.2.2.2)))) fun aq=>
 (.i11 ((ae (aq.1.1- s.2.1))<(ae (s.2.2.1- aq.1.1)))
 (.cV bk (aq.2.1,(s.2.1,(aq.1.1,(s.2.2.2.1,x.2.2.2.2)))) fun y_2=>
 (.ret (.inl (y_2.2.1,((w1 aq.1.1),(s.2.2.1,(s.2.2.2.1,((decide ((ae (aq.1.1- s.2.1))>=(ae (Int.tdiv (ae (s.2.2.1- s.2.1)) (8:Int))))),aq.1.2))))))))
 (.cV bk (aq.2.1,((w1 aq.1.1),(s.2.2.1,(s.2.2.2.1,x.2.2.2.2)))) fun y_2=>
 (.ret (.inl (y_2.2.1,(s.2.1,(aq.1.1,(s.2.2.2.1,((decide ((ae (s.2.2.1- aq.1.1))>=(ae (Int.tdiv (ae (s.2.2.1- s.2.1)) (8:Int))))),aq.1.2))))))))))))
 (.i11 (s.2.1>z0)
 (.cf (wm s.2.1) s.1
 (.cf y.1 s.1
 (.fn dO (x.2.2.2.2,((gI s.1 (wm s.2.1)),(gI s.1 y.1))) fun aq=>
 (.u5 (!(decide (aq<z0)))
 (.cV dy (s.1,(s.2.1,(s.2.2.1,(y.1,x.2.2.2.2)))) fun y_2=>
 (.ret (.inl (y_2.2.1,(y_2.1,(s.2.2.1,(s.2.2.2.1,(s.2.2.2.2.1,s.2.2.2.2.2))))))))
 (.cV b7 (s.1,(s.2.1,(s.2.2.1,(y.1,x.2.2.2.2)))) fun y_2=>
 (.i11 ((ae (y_2.1.1- s.2.1))<(ae (s.2.2.1- y_2.1.1)))
 (.cV bk (y_2.2.1,(s.2.1,(y_2.1.1,(s.2.2.2.1,x.2.2.2.2)))) fun au=>
 (.ret (.inl (au.2.1,((w1 y_2.1.1),(s.2.2.1,(s.2.2.2.1,((decide ((ae (y_2.1.1- s.2.1))>=(ae (Int.tdiv (ae (s.2.2.1- s.2.1)) (8:Int))))),y_2.1.2))))))))
 (.cV bk (y_2.2.1,((w1 y_2.1.1),(s.2.2.1,(s.2.2.2.1,x.2.2.2.2)))) fun au=>
 (.ret (.inl (au.2.1,(s.2.1,(y_2.1.1,(s.2.2.2.1,((decide ((ae (s.2.2.1- y_2.1.1))>=(ae (Int.tdiv (ae (s.2.2.1- s.2.1)) (8:Int))))),y_2.1.2))))))))))))))
 (.cV b7 (s.1,(s.2.1,(s.2.2.1,(y.1,x.2.2.2.2)))) fun aq=>
 (.i11 ((ae (aq.1.1- s.2.1))<(ae (s.2.2.1- aq.1.1)))
 (.cV bk (aq.2.1,(s.2.1,(aq.1.1,(s.2.2.2.1,x.2.2.2.2)))) fun y_2=>
 (.ret (.inl (y_2.2.1,((w1 aq.1.1),(s.2.2.1,(s.2.2.2.1,((decide ((ae (aq.1.1- s.2.1))>=(ae (Int.tdiv (ae (s.2.2.1- s.2.1)) (8:Int))))),aq.1.2))))))))
 (.cV bk (aq.2.1,((w1 aq.1.1),(s.2.2.1,(s.2.2.2.1,x.2.2.2.2)))) fun y_2=>
 (.ret (.inl (y_2.2.1,(s.2.1,(aq.1.1,(s.2.2.2.1,((decide ((ae (s.2.2.1- aq.1.1))>=(ae (Int.tdiv (ae (s.2.2.1- s.2.1)) (8:Int))))),aq.1.2))))))))))))
 (.i11 (s.2.1>z0)
 (.cf (wm s.2.1) s.1
 (.cf y.1 s.1
 (.fn dO (x.2.2.2.2,((gI s.1 (wm s.2.1)),(gI s.1 y.1))) fun aq=>
 (.u5 (!(decide (aq<z0)))
 (.cV dy (s.1,(s.2.1,(s.2.2.1,(y.1,x.2.2.2.2)))) fun y_2=>
 (.ret (.inl (y_2.2.1,(y_2.1,(s.2.2.1,(s.2.2.2.1,(s.2.2.2.2.1,s.2.2.2.2.2))))))))
 (.cV b7 (s.1,(s.2.1,(s.2.2.1,(y.1,x.2.2.2.2)))) fun y_2=>
 (.i11 ((ae (y_2.1.1- s.2.1))<(ae (s.2.2.1- y_2.1.1)))
 (.cV bk (y_2.2.1,(s.2.1,(y_2.1.1,(s.2.2.2.1,x.2.2.2.2)))) fun au=>
 (.ret (.inl (au.2.1,((w1 y_2.1.1),(s.2.2.1,(s.2.2.2.1,((decide ((ae (y_2.1.1- s.2.1))>=(ae (Int.tdiv (ae (s.2.2.1- s.2.1)) (8:Int))))),y_2.1.2))))))))
 (.cV bk (y_2.2.1,((w1 y_2.1.1),(s.2.2.1,(s.2.2.2.1,x.2.2.2.2)))) fun au=>
 (.ret (.inl (au.2.1,(s.2.1,(y_2.1.1,(s.2.2.2.1,((decide ((ae (s.2.2.1- y_2.1.1))>=(ae (Int.tdiv (ae (s.2.2.1- s.2.1)) (8:Int))))),y_2.1.2))))))))))))))
 (.cV b7 (s.1,(s.2.1,(s.2.2.1,(y.1,x.2.2.2.2)))) fun aq=>
 (.i11 ((ae (aq.1.1- s.2.1))<(ae (s.2.2.1- aq.1.1)))
 (.cV bk (aq.2.1,(s.2.1,(aq.1.1,(s.2.2.2.1,x.2.2.2.2)))) fun y_2=>
 (.ret (.inl (y_2.2.1,((w1 aq.1.1),(s.2.2.1,(s.2.2.2.1,((decide ((ae (aq.1.1- s.2.1))>=(ae (Int.tdiv (ae (s.2.2.1- s.2.1)) (8:Int))))),aq.1.2))))))))
 (.cV bk (aq.2.1,((w1 aq.1.1),(s.2.2.1,(s.2.2.2.1,x.2.2.2.2)))) fun y_2=>
 (.ret (.inl (y_2.2.1,(s.2.1,(aq.1.1,(s.2.2.2.1,((decide ((ae (s.2.2.1- aq.1.1))>=(ae (Int.tdiv (ae (s.2.2.1- s.2.1)) (8:Int))))),aq.1.2)))))))))))))))))
def UR (x:((List Int)×(Int×(Int×(Int×((List I9)×Int)))))):(Bool×((List Int)×(Bool×(Bool×(Bool×Bool))))):=
 (ai (run (c6 x) (x.1,(x.2.1,(x.2.2.1,(x.2.2.2.1,(true,true)))))) fun r=>
 (false,(r,(false,(false,(false,false))))))
def BJ (x:((List Int)×(Int×(Int×(Int×((List I9)×Int)))))):Prop:=
 (Term (c6 x) (gy x) (x.1,(x.2.1,(x.2.2.1,(x.2.2.2.1,(true,true)))))/\
 ay (run (c6 x) (x.1,(x.2.1,(x.2.2.1,(x.2.2.2.1,(true,true)))))) fun r=>
 ((List.length r)=(List.length x.1)))
def UT (x:((List Int)×(Int×(Int×(Int×((List I9)×Int)))))):Tr (Bool×((List Int)×(Bool×(Bool×(Bool×Bool))))) true:=
 (aS.lp (kL x) (rV x) (x.1,(x.2.1,(x.2.2.1,(x.2.2.2.1,(true,true))))) fun r=>
 (.pn 0 2
 (.og ((decide ((List.length r)=(List.length x.1)))&&true) ((List.length r)=(List.length x.1)) (fun h=>(cj (decide_eq_true h) rfl))
 (.ret (false,(r,(false,(false,(false,false)))))))))
abbrev PF:Cz:=⟨(.pair (.row yi) (.pair (.val (.one yi)) (.pair (.val (.one yi)) (.pair (.val (.one yi)) (.val uc))))),.none,BJ,UR⟩
abbrev BI (x:((List Int)×(Int×(Int×(Int×((List I9)×Int)))))) (s:(kL x).S):Prop:= ∀g Q,dY ⟨tt,Lf,fh,[],[],[]⟩ (cI (bt 0 (bG Try.f51))) ((kL x).Kv.fill g s) ((kL x).kb g Q)=(rV x s).wp ((kL x).post g Q) (Fo (kL x).gt g)
theorem PG (x:((List Int)×(Int×(Int×(Int×((List I9)×Int)))))) (l:List Int) (a b c:Int):BI x (l,(a,(b,(c,(false,false))))):=fun g Q=>by kernel_rfl
theorem PI (x:((List Int)×(Int×(Int×(Int×((List I9)×Int)))))) (l:List Int) (a b c:Int):BI x (l,(a,(b,(c,(false,true))))):=fun g Q=>by kernel_rfl
theorem PJ (x:((List Int)×(Int×(Int×(Int×((List I9)×Int)))))) (l:List Int) (a b c:Int):BI x (l,(a,(b,(c,(true,false))))):=fun g Q=>by kernel_rfl
theorem PK (x:((List Int)×(Int×(Int×(Int×((List I9)×Int)))))) (l:List Int) (a b c:Int):BI x (l,(a,(b,(c,(true,true))))):=fun g Q=>by kernel_rfl
theorem US (x:((List Int)×(Int×(Int×(Int×((List I9)×Int)))))): ∀s,BI x s
 |(l,(a,(b,(c,(false,false)))))=>PG x l a b c
 |(l,(a,(b,(c,(false,true)))))=>PI x l a b c
 |(l,(a,(b,(c,(true,false)))))=>PJ x l a b c
 |(l,(a,(b,(c,(true,true)))))=>PK x l a b c
theorem R9:av Try.prog 51 (bC PF):=av.Ln PF UT (fn:=Try.f51) aQ Ce mixed (by kernel_rfl) (aD.nil _ _) (fun x=>(aB.tr aQ (ah.fe Ce (aD.nil _ _)) mixed 0 (kL x) (rV x) aB.nil (by kernel_rfl) fun g s Q=>US x s g Q)) (fun x=>(by kernel_rfl)) fun x r0 Q=>(by kernel_rfl)
end
end Go.Proofs.Ytaipcbdilkcdbaa
