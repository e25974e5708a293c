/- Sorting: the function that calls itself. -/
import Derived.Test.YtlkgabjhkfhgaaaGreatTa
noncomputable section
set_option linter.unusedSectionVars false
set_option linter.unusedVariables false
set_option linter.unusedSimpArgs false
namespace Go.Proofs.YtlkgabjhkfhgaaaGreat
open Go Go.Ev Go.Proofs
abbrev R4:lN:= .pair (.row (.int .i64)) (.pair (.val (.one (.int .i64))) (.pair (.val (.one (.int .i64))) (.pair (.val (.one (.int .i64))) (.val ug))))
class pq where
 pre:List Int×Int×Int×Int×RT->Prop
 f:List Int×Int×Int×Int×RT->Bool×List Int×Bool×Bool×Bool×Bool
 ok:ak Tryz.prog 106 (bf ⟨R4,.none,pre,f⟩)
section
variable [pq]
def ct (x:List Int×Int×Int×Int×RT):Bool×List Int×Bool×Bool×Bool×Bool:=pq.f x
def aH (x:List Int×Int×Int×Int×RT):Prop:=pq.pre x
abbrev aV:Dh:=⟨R4,.none,aH,ct⟩
theorem UX:ak Tryz.prog 106 (bf aV):=pq.ok
def MX:List (Nat×Ev.Spec):=(106,bf aV)::CK
theorem CL:ah Tryz.prog MX:=ah.add (fn:=Tryz.f106) (by kernel_rfl) UX zv
def ku (x:((List Int)×(Int×(Int×(Int×((List I9)×Int)))))):aI:=⟨[.env],⟨cA 148 0 [(0,.v (.one (.full 0))),(1,.v (.one (.i .i64))),(2,.v (.one (.i .i64))),(3,.v (.one (.i .i64))),(4,.v (.one (.mv 73 true [.full 1,.ext]))),(10,.v (.one (.b))),(11,.v (.one (.b)))],[.row yi 1,.row bP 0,.dO 2],3,none,[8],[3,7],[6,0,1,2,4,5],[(.l yi),.i,.i,.i,.b,.b],[.v (.int .i64 x.2.2.2.2.2),.l bP x.2.2.2.2.1]⟩,[⟨.ret,.ret,⟨cA 148 0 [],[.row yi 1,.row bP 0,.dO 2],3,none,[2],[1],[0],[(.l yi)],[.l bP x.2.2.2.2.1]⟩⟩]⟩
def cH (x:((List Int)×(Int×(Int×(Int×((List I9)×Int)))))) (s:((List Int)×(Int×(Int×(Int×(Bool×Bool)))))):((List Int)×(Int×(Int×(Int×(Bool×Bool)))))⊕(List Int):=
 (if ((ae (s.2.2.1- s.2.1))<=(12:Int)) then
 (ai (KI (s.1,(s.2.1,(s.2.2.1,x.2.2.2.2)))) fun y=>
 (Sum.inr (y.2.1))) else
 (if ((s.2.2.2.1==(0:Int))=true) then
 (ai (Bf (s.1,(s.2.1,(s.2.2.1,x.2.2.2.2)))) fun y=>
 (Sum.inr (y.2.1))) else
 (if ((!s.2.2.2.2.1)=true) then
 (ai (HA (s.1,(s.2.1,(s.2.2.1,x.2.2.2.2)))) fun y=>
 (ai (zN (y.2.1,(s.2.1,(s.2.2.1,x.2.2.2.2)))) fun aq=>
 (if ((aq.2==(2:Int))=true) then
 (ai (DL (y.2.1,(s.2.1,(s.2.2.1,x.2.2.2.2)))) fun y_2=>
 (if (s.2.2.2.2.1=true) then
 (if (s.2.2.2.2.2=true) then
 (ai (lC (y_2.2.1,(s.2.1,(s.2.2.1,x.2.2.2.2)))) fun au=>
 (if (au.1=true) then
 (Sum.inr (au.2.1)) else
 (if (s.2.1>(0:Int)) then
 (ai (jQ (x.2.2.2.2,((List.getD au.2.1 (Int.toNat (ae (s.2.1- (1:Int)))) (0:Int)),(List.getD au.2.1 (Int.toNat (ae ((ae (s.2.2.1- (1:Int)))- (ae (aq.1- s.2.1))))) (0:Int))))) fun aG=>
 (if ((!(decide (aG<(0:Int))))=true) then
 (ai (dN (au.2.1,(s.2.1,(s.2.2.1,((ae ((ae (s.2.2.1- (1:Int)))- (ae (aq.1- s.2.1)))),x.2.2.2.2))))) fun cu=>
 (Sum.inl (cu.2.1,(cu.1,(s.2.2.1,((ae (s.2.2.2.1- (1:Int))),(s.2.2.2.2.1,s.2.2.2.2.2))))))) else
 (ai (bn (au.2.1,(s.2.1,(s.2.2.1,((ae ((ae (s.2.2.1- (1:Int)))- (ae (aq.1- s.2.1)))),x.2.2.2.2))))) fun cu=>
 (if ((ae (cu.1.1- s.2.1))<(ae (s.2.2.1- cu.1.1))) then
 (ai (ct (cu.2.1,(s.2.1,(cu.1.1,((ae (s.2.2.2.1- (1:Int))),x.2.2.2.2))))) fun qD=>
 (Sum.inl (qD.2.1,((ae (cu.1.1+(1:Int))),(s.2.2.1,((ae (s.2.2.2.1- (1:Int))),((decide ((ae (cu.1.1- s.2.1))>=(ae (Int.tdiv (ae (s.2.2.1- s.2.1)) (8:Int))))),cu.1.2))))))) else
 (ai (ct (cu.2.1,((ae (cu.1.1+(1:Int))),(s.2.2.1,((ae (s.2.2.2.1- (1:Int))),x.2.2.2.2))))) fun qD=>
 (Sum.inl (qD.2.1,(s.2.1,(cu.1.1,((ae (s.2.2.2.1- (1:Int))),((decide ((ae (s.2.2.1- cu.1.1))>=(ae (Int.tdiv (ae (s.2.2.1- s.2.1)) (8:Int))))),cu.1.2))))))))))) else
 (ai (bn (au.2.1,(s.2.1,(s.2.2.1,((ae ((ae (s.2.2.1- (1:Int)))- (ae (aq.1- s.2.1)))),x.2.2.2.2))))) fun aG=>
 (if ((ae (aG.1.1- s.2.1))<(ae (s.2.2.1- aG.1.1))) then
 (ai (ct (aG.2.1,(s.2.1,(aG.1.1,((ae (s.2.2.2.1- (1:Int))),x.2.2.2.2))))) fun cu=>
 (Sum.inl (cu.2.1,((ae (aG.1.1+(1:Int))),(s.2.2.1,((ae (s.2.2.2.1- (1:Int))),((decide ((ae (aG.1.1- s.2.1))>=(ae (Int.tdiv (ae (s.2.2.1- s.2.1)) (8:Int))))),aG.1.2))))))) else
 (ai (ct (aG.2.1,((ae (aG.1.1+(1:Int))),(s.2.2.1,((ae (s.2.2.2.1- (1:Int))),x.2.2.2.2))))) fun cu=>
 (Sum.inl (cu.2.1,(s.2.1,(aG.1.1,((ae (s.2.2.2.1- (1:Int))),((decide ((ae (s.2.2.1- aG.1.1))>=(ae (Int.tdiv (ae (s.2.2.1- s.2.1)) (8:Int))))),aG.1.2)))))))))))) else
 (if (s.2.1>(0:Int)) then
 (ai (jQ (x.2.2.2.2,((List.getD y_2.2.1 (Int.toNat (ae (s.2.1- (1:Int)))) (0:Int)),(List.getD y_2.2.1 (Int.toNat (ae ((ae (s.2.2.1- (1:Int)))- (ae (aq.1- s.2.1))))) (0:Int))))) fun au=>
 (if ((!(decide (au<(0:Int))))=true) then
 (ai (dN (y_2.2.1,(s.2.1,(s.2.2.1,((ae ((ae (s.2.2.1- (1:Int)))- (ae (aq.1- s.2.1)))),x.2.2.2.2))))) fun aG=>
 (Sum.inl (aG.2.1,(aG.1,(s.2.2.1,((ae (s.2.2.2.1- (1:Int))),(s.2.2.2.2.1,s.2.2.2.2.2))))))) else
 (ai (bn (y_2.2.1,(s.2.1,(s.2.2.1,((ae ((ae (s.2.2.1- (1:Int)))- (ae (aq.1- s.2.1)))),x.2.2.2.2))))) fun aG=>
 (if ((ae (aG.1.1- s.2.1))<(ae (s.2.2.1- aG.1.1))) then
 (ai (ct (aG.2.1,(s.2.1,(aG.1.1,((ae (s.2.2.2.1- (1:Int))),x.2.2.2.2))))) fun cu=>
 (Sum.inl (cu.2.1,((ae (aG.1.1+(1:Int))),(s.2.2.1,((ae (s.2.2.2.1- (1:Int))),((decide ((ae (aG.1.1- s.2.1))>=(ae (Int.tdiv (ae (s.2.2.1- s.2.1)) (8:Int))))),aG.1.2))))))) else
 (ai (ct (aG.2.1,((ae (aG.1.1+(1:Int))),(s.2.2.1,((ae (s.2.2.2.1- (1:Int))),x.2.2.2.2))))) fun cu=>
 (Sum.inl (cu.2.1,(s.2.1,(aG.1.1,((ae (s.2.2.2.1- (1:Int))),((decide ((ae (s.2.2.1- aG.1.1))>=(ae (Int.tdiv (ae (s.2.2.1- s.2.1)) (8:Int))))),aG.1.2))))))))))) else
 (ai (bn (y_2.2.1,(s.2.1,(s.2.2.1,((ae ((ae (s.2.2.1- (1:Int)))- (ae (aq.1- s.2.1)))),x.2.2.2.2))))) fun au=>
 (if ((ae (au.1.1- s.2.1))<(ae (s.2.2.1- au.1.1))) then
 (ai (ct (au.2.1,(s.2.1,(au.1.1,((ae (s.2.2.2.1- (1:Int))),x.2.2.2.2))))) fun aG=>
 (Sum.inl (aG.2.1,((ae (au.1.1+(1:Int))),(s.2.2.1,((ae (s.2.2.2.1- (1:Int))),((decide ((ae (au.1.1- s.2.1))>=(ae (Int.tdiv (ae (s.2.2.1- s.2.1)) (8:Int))))),au.1.2))))))) else
 (ai (ct (au.2.1,((ae (au.1.1+(1:Int))),(s.2.2.1,((ae (s.2.2.2.1- (1:Int))),x.2.2.2.2))))) fun aG=>
 (Sum.inl (aG.2.1,(s.2.1,(au.1.1,((ae (s.2.2.2.1- (1:Int))),((decide ((ae (s.2.2.1- au.1.1))>=(ae (Int.tdiv (ae (s.2.2.1- s.2.1)) (8:Int))))),au.1.2))))))))))) else
 (if (s.2.1>(0:Int)) then
 (ai (jQ (x.2.2.2.2,((List.getD y_2.2.1 (Int.toNat (ae (s.2.1- (1:Int)))) (0:Int)),(List.getD y_2.2.1 (Int.toNat (ae ((ae (s.2.2.1- (1:Int)))- (ae (aq.1- s.2.1))))) (0:Int))))) fun au=>
 (if ((!(decide (au<(0:Int))))=true) then
 (ai (dN (y_2.2.1,(s.2.1,(s.2.2.1,((ae ((ae (s.2.2.1- (1:Int)))- (ae (aq.1- s.2.1)))),x.2.2.2.2))))) fun aG=>
 (Sum.inl (aG.2.1,(aG.1,(s.2.2.1,((ae (s.2.2.2.1- (1:Int))),(s.2.2.2.2.1,s.2.2.2.2.2))))))) else
 (ai (bn (y_2.2.1,(s.2.1,(s.2.2.1,((ae ((ae (s.2.2.1- (1:Int)))- (ae (aq.1- s.2.1)))),x.2.2.2.2))))) fun aG=>
 (if ((ae (aG.1.1- s.2.1))<(ae (s.2.2.1- aG.1.1))) then
 (ai (ct (aG.2.1,(s.2.1,(aG.1.1,((ae (s.2.2.2.1- (1:Int))),x.2.2.2.2))))) fun cu=>
 (Sum.inl (cu.2.1,((ae (aG.1.1+(1:Int))),(s.2.2.1,((ae (s.2.2.2.1- (1:Int))),((decide ((ae (aG.1.1- s.2.1))>=(ae (Int.tdiv (ae (s.2.2.1- s.2.1)) (8:Int))))),aG.1.2))))))) else
 (ai (ct (aG.2.1,((ae (aG.1.1+(1:Int))),(s.2.2.1,((ae (s.2.2.2.1- (1:Int))),x.2.2.2.2))))) fun cu=>
 (Sum.inl (cu.2.1,(s.2.1,(aG.1.1,((ae (s.2.2.2.1- (1:Int))),((decide ((ae (s.2.2.1- aG.1.1))>=(ae (Int.tdiv (ae (s.2.2.1- s.2.1)) (8:Int))))),aG.1.2))))))))))) else
 (ai (bn (y_2.2.1,(s.2.1,(s.2.2.1,((ae ((ae (s.2.2.1- (1:Int)))- (ae (aq.1- s.2.1)))),x.2.2.2.2))))) fun au=>
 (if ((ae (au.1.1- s.2.1))<(ae (s.2.2.1- au.1.1))) then
 (ai (ct (au.2.1,(s.2.1,(au.1.1,((ae (s.2.2.2.1- (1:Int))),x.2.2.2.2))))) fun aG=>
 (Sum.inl (aG.2.1,((ae (au.1.1+(1:Int))),(s.2.2.1,((ae (s.2.2.2.1- (1:Int))),((decide ((ae (au.1.1- s.2.1))>=(ae (Int.tdiv (ae (s.2.2.1- s.2.1)) (8:Int))))),au.1.2))))))) else
 (ai (ct (au.2.1,((ae (au.1.1+(1:Int))),(s.2.2.1,((ae (s.2.2.2.1- (1:Int))),x.2.2.2.2))))) fun aG=>
 (Sum.inl (aG.2.1,(s.2.1,(au.1.1,((ae (s.2.2.2.1- (1:Int))),((decide ((ae (s.2.2.1- au.1.1))>=(ae (Int.tdiv (ae (s.2.2.1- s.2.1)) (8:Int))))),au.1.2)))))))))))) else
 (if (s.2.2.2.2.1=true) then
 (if (s.2.2.2.2.2=true) then
 (if ((aq.2==(1:Int))=true) then
 (ai (lC (y.2.1,(s.2.1,(s.2.2.1,x.2.2.2.2)))) fun y_2=>
 (if (y_2.1=true) then
 (Sum.inr (y_2.2.1)) else
 (if (s.2.1>(0:Int)) then
 (ai (jQ (x.2.2.2.2,((List.getD y_2.2.1 (Int.toNat (ae (s.2.1- (1:Int)))) (0:Int)),(List.getD y_2.2.1 (Int.toNat aq.1) (0:Int))))) fun au=>
 (if ((!(decide (au<(0:Int))))=true) then
 (ai (dN (y_2.2.1,(s.2.1,(s.2.2.1,(aq.1,x.2.2.2.2))))) fun aG=>
 (Sum.inl (aG.2.1,(aG.1,(s.2.2.1,((ae (s.2.2.2.1- (1:Int))),(s.2.2.2.2.1,s.2.2.2.2.2))))))) else
 (ai (bn (y_2.2.1,(s.2.1,(s.2.2.1,(aq.1,x.2.2.2.2))))) fun aG=>
 (if ((ae (aG.1.1- s.2.1))<(ae (s.2.2.1- aG.1.1))) then
 (ai (ct (aG.2.1,(s.2.1,(aG.1.1,((ae (s.2.2.2.1- (1:Int))),x.2.2.2.2))))) fun cu=>
 (Sum.inl (cu.2.1,((ae (aG.1.1+(1:Int))),(s.2.2.1,((ae (s.2.2.2.1- (1:Int))),((decide ((ae (aG.1.1- s.2.1))>=(ae (Int.tdiv (ae (s.2.2.1- s.2.1)) (8:Int))))),aG.1.2))))))) else
 (ai (ct (aG.2.1,((ae (aG.1.1+(1:Int))),(s.2.2.1,((ae (s.2.2.2.1- (1:Int))),x.2.2.2.2))))) fun cu=>
 (Sum.inl (cu.2.1,(s.2.1,(aG.1.1,((ae (s.2.2.2.1- (1:Int))),((decide ((ae (s.2.2.1- aG.1.1))>=(ae (Int.tdiv (ae (s.2.2.1- s.2.1)) (8:Int))))),aG.1.2))))))))))) else
 (ai (bn (y_2.2.1,(s.2.1,(s.2.2.1,(aq.1,x.2.2.2.2))))) fun au=>
 (if ((ae (au.1.1- s.2.1))<(ae (s.2.2.1- au.1.1))) then
 (ai (ct (au.2.1,(s.2.1,(au.1.1,((ae (s.2.2.2.1- (1:Int))),x.2.2.2.2))))) fun aG=>
 (Sum.inl (aG.2.1,((ae (au.1.1+(1:Int))),(s.2.2.1,((ae (s.2.2.2.1- (1:Int))),((decide ((ae (au.1.1- s.2.1))>=(ae (Int.tdiv (ae (s.2.2.1- s.2.1)) (8:Int))))),au.1.2))))))) else
 (ai (ct (au.2.1,((ae (au.1.1+(1:Int))),(s.2.2.1,((ae (s.2.2.2.1- (1:Int))),x.2.2.2.2))))) fun aG=>
 (Sum.inl (aG.2.1,(s.2.1,(au.1.1,((ae (s.2.2.2.1- (1:Int))),((decide ((ae (s.2.2.1- au.1.1))>=(ae (Int.tdiv (ae (s.2.2.1- s.2.1)) (8:Int))))),au.1.2)))))))))))) else
 (if (s.2.1>(0:Int)) then
 (ai (jQ (x.2.2.2.2,((List.getD y.2.1 (Int.toNat (ae (s.2.1- (1:Int)))) (0:Int)),(List.getD y.2.1 (Int.toNat aq.1) (0:Int))))) fun y_2=>
 (if ((!(decide (y_2<(0:Int))))=true) then
 (ai (dN (y.2.1,(s.2.1,(s.2.2.1,(aq.1,x.2.2.2.2))))) fun au=>
 (Sum.inl (au.2.1,(au.1,(s.2.2.1,((ae (s.2.2.2.1- (1:Int))),(s.2.2.2.2.1,s.2.2.2.2.2))))))) else
 (ai (bn (y.2.1,(s.2.1,(s.2.2.1,(aq.1,x.2.2.2.2))))) fun au=>
 (if ((ae (au.1.1- s.2.1))<(ae (s.2.2.1- au.1.1))) then
 (ai (ct (au.2.1,(s.2.1,(au.1.1,((ae (s.2.2.2.1- (1:Int))),x.2.2.2.2))))) fun aG=>
 (Sum.inl (aG.2.1,((ae (au.1.1+(1:Int))),(s.2.2.1,((ae (s.2.2.2.1- (1:Int))),((decide ((ae (au.1.1- s.2.1))>=(ae (Int.tdiv (ae (s.2.2.1- s.2.1)) (8:Int))))),au.1.2))))))) else
 (ai (ct (au.2.1,((ae (au.1.1+(1:Int))),(s.2.2.1,((ae (s.2.2.2.1- (1:Int))),x.2.2.2.2))))) fun aG=>
 (Sum.inl (aG.2.1,(s.2.1,(au.1.1,((ae (s.2.2.2.1- (1:Int))),((decide ((ae (s.2.2.1- au.1.1))>=(ae (Int.tdiv (ae (s.2.2.1- s.2.1)) (8:Int))))),au.1.2))))))))))) else
 (ai (bn (y.2.1,(s.2.1,(s.2.2.1,(aq.1,x.2.2.2.2))))) fun y_2=>
 (if ((ae (y_2.1.1- s.2.1))<(ae (s.2.2.1- y_2.1.1))) then
 (ai (ct (y_2.2.1,(s.2.1,(y_2.1.1,((ae (s.2.2.2.1- (1:Int))),x.2.2.2.2))))) fun au=>
 (Sum.inl (au.2.1,((ae (y_2.1.1+(1:Int))),(s.2.2.1,((ae (s.2.2.2.1- (1:Int))),((decide ((ae (y_2.1.1- s.2.1))>=(ae (Int.tdiv (ae (s.2.2.1- s.2.1)) (8:Int))))),y_2.1.2))))))) else
 (ai (ct (y_2.2.1,((ae (y_2.1.1+(1:Int))),(s.2.2.1,((ae (s.2.2.2.1- (1:Int))),x.2.2.2.2))))) fun au=>
 (Sum.inl (au.2.1,(s.2.1,(y_2.1.1,((ae (s.2.2.2.1- (1:Int))),((decide ((ae (s.2.2.1- y_2.1.1))>=(ae (Int.tdiv (ae (s.2.2.1- s.2.1)) (8:Int))))),y_2.1.2))))))))))) else
 (if (s.2.1>(0:Int)) then
 (ai (jQ (x.2.2.2.2,((List.getD y.2.1 (Int.toNat (ae (s.2.1- (1:Int)))) (0:Int)),(List.getD y.2.1 (Int.toNat aq.1) (0:Int))))) fun y_2=>
 (if ((!(decide (y_2<(0:Int))))=true) then
 (ai (dN (y.2.1,(s.2.1,(s.2.2.1,(aq.1,x.2.2.2.2))))) fun au=>
 (Sum.inl (au.2.1,(au.1,(s.2.2.1,((ae (s.2.2.2.1- (1:Int))),(s.2.2.2.2.1,s.2.2.2.2.2))))))) else
 (ai (bn (y.2.1,(s.2.1,(s.2.2.1,(aq.1,x.2.2.2.2))))) fun au=>
 (if ((ae (au.1.1- s.2.1))<(ae (s.2.2.1- au.1.1))) then
 (ai (ct (au.2.1,(s.2.1,(au.1.1,((ae (s.2.2.2.1- (1:Int))),x.2.2.2.2))))) fun aG=>
 (Sum.inl (aG.2.1,((ae (au.1.1+(1:Int))),(s.2.2.1,((ae (s.2.2.2.1- (1:Int))),((decide ((ae (au.1.1- s.2.1))>=(ae (Int.tdiv (ae (s.2.2.1- s.2.1)) (8:Int))))),au.1.2))))))) else
 (ai (ct (au.2.1,((ae (au.1.1+(1:Int))),(s.2.2.1,((ae (s.2.2.2.1- (1:Int))),x.2.2.2.2))))) fun aG=>
 (Sum.inl (aG.2.1,(s.2.1,(au.1.1,((ae (s.2.2.2.1- (1:Int))),((decide ((ae (s.2.2.1- au.1.1))>=(ae (Int.tdiv (ae (s.2.2.1- s.2.1)) (8:Int))))),au.1.2))))))))))) else
 (ai (bn (y.2.1,(s.2.1,(s.2.2.1,(aq.1,x.2.2.2.2))))) fun y_2=>
 (if ((ae (y_2.1.1- s.2.1))<(ae (s.2.2.1- y_2.1.1))) then
 (ai (ct (y_2.2.1,(s.2.1,(y_2.1.1,((ae (s.2.2.2.1- (1:Int))),x.2.2.2.2))))) fun au=>
 (Sum.inl (au.2.1,((ae (y_2.1.1+(1:Int))),(s.2.2.1,((ae (s.2.2.2.1- (1:Int))),((decide ((ae (y_2.1.1- s.2.1))>=(ae (Int.tdiv (ae (s.2.2.1- s.2.1)) (8:Int))))),y_2.1.2))))))) else
 (ai (ct (y_2.2.1,((ae (y_2.1.1+(1:Int))),(s.2.2.1,((ae (s.2.2.2.1- (1:Int))),x.2.2.2.2))))) fun au=>
 (Sum.inl (au.2.1,(s.2.1,(y_2.1.1,((ae (s.2.2.2.1- (1:Int))),((decide ((ae (s.2.2.1- y_2.1.1))>=(ae (Int.tdiv (ae (s.2.2.1- s.2.1)) (8:Int))))),y_2.1.2))))))))))) else
 (if (s.2.1>(0:Int)) then
 (ai (jQ (x.2.2.2.2,((List.getD y.2.1 (Int.toNat (ae (s.2.1- (1:Int)))) (0:Int)),(List.getD y.2.1 (Int.toNat aq.1) (0:Int))))) fun y_2=>
 (if ((!(decide (y_2<(0:Int))))=true) then
 (ai (dN (y.2.1,(s.2.1,(s.2.2.1,(aq.1,x.2.2.2.2))))) fun au=>
 (Sum.inl (au.2.1,(au.1,(s.2.2.1,((ae (s.2.2.2.1- (1:Int))),(s.2.2.2.2.1,s.2.2.2.2.2))))))) else
 (ai (bn (y.2.1,(s.2.1,(s.2.2.1,(aq.1,x.2.2.2.2))))) fun au=>
 (if ((ae (au.1.1- s.2.1))<(ae (s.2.2.1- au.1.1))) then
 (ai (ct (au.2.1,(s.2.1,(au.1.1,((ae (s.2.2.2.1- (1:Int))),x.2.2.2.2))))) fun aG=>
 (Sum.inl (aG.2.1,((ae (au.1.1+(1:Int))),(s.2.2.1,((ae (s.2.2.2.1- (1:Int))),((decide ((ae (au.1.1- s.2.1))>=(ae (Int.tdiv (ae (s.2.2.1- s.2.1)) (8:Int))))),au.1.2))))))) else
 (ai (ct (au.2.1,((ae (au.1.1+(1:Int))),(s.2.2.1,((ae (s.2.2.2.1- (1:Int))),x.2.2.2.2))))) fun aG=>
 (Sum.inl (aG.2.1,(s.2.1,(au.1.1,((ae (s.2.2.2.1- (1:Int))),((decide ((ae (s.2.2.1- au.1.1))>=(ae (Int.tdiv (ae (s.2.2.1- s.2.1)) (8:Int))))),au.1.2))))))))))) else
 (ai (bn (y.2.1,(s.2.1,(s.2.2.1,(aq.1,x.2.2.2.2))))) fun y_2=>
 (if ((ae (y_2.1.1- s.2.1))<(ae (s.2.2.1- y_2.1.1))) then
 (ai (ct (y_2.2.1,(s.2.1,(y_2.1.1,((ae (s.2.2.2.1- (1:Int))),x.2.2.2.2))))) fun au=>
 (Sum.inl (au.2.1,((ae (y_2.1.1+(1:Int))),(s.2.2.1,((ae (s.2.2.2.1- (1:Int))),((decide ((ae (y_2.1.1- s.2.1))>=(ae (Int.tdiv (ae (s.2.2.1- s.2.1)) (8:Int))))),y_2.1.2))))))) else
 (ai (ct (y_2.2.1,((ae (y_2.1.1+(1:Int))),(s.2.2.1,((ae (s.2.2.2.1- (1:Int))),x.2.2.2.2))))) fun au=>
 (Sum.inl (au.2.1,(s.2.1,(y_2.1.1,((ae (s.2.2.2.1- (1:Int))),((decide ((ae (s.2.2.1- y_2.1.1))>=(ae (Int.tdiv (ae (s.2.2.1- s.2.1)) (8:Int))))),y_2.1.2)))))))))))))) else
 (ai (zN (s.1,(s.2.1,(s.2.2.1,x.2.2.2.2)))) fun y=>
 (if ((y.2==(2:Int))=true) then
 (ai (DL (s.1,(s.2.1,(s.2.2.1,x.2.2.2.2)))) fun aq=>
 (if (s.2.2.2.2.1=true) then
 (if (s.2.2.2.2.2=true) then
 (ai (lC (aq.2.1,(s.2.1,(s.2.2.1,x.2.2.2.2)))) fun y_2=>
 (if (y_2.1=true) then
 (Sum.inr (y_2.2.1)) else
 (if (s.2.1>(0:Int)) then
 (ai (jQ (x.2.2.2.2,((List.getD y_2.2.1 (Int.toNat (ae (s.2.1- (1:Int)))) (0:Int)),(List.getD y_2.2.1 (Int.toNat (ae ((ae (s.2.2.1- (1:Int)))- (ae (y.1- s.2.1))))) (0:Int))))) fun au=>
 (if ((!(decide (au<(0:Int))))=true) then
 (ai (dN (y_2.2.1,(s.2.1,(s.2.2.1,((ae ((ae (s.2.2.1- (1:Int)))- (ae (y.1- s.2.1)))),x.2.2.2.2))))) fun aG=>
 (Sum.inl (aG.2.1,(aG.1,(s.2.2.1,(s.2.2.2.1,(s.2.2.2.2.1,s.2.2.2.2.2))))))) else
 (ai (bn (y_2.2.1,(s.2.1,(s.2.2.1,((ae ((ae (s.2.2.1- (1:Int)))- (ae (y.1- s.2.1)))),x.2.2.2.2))))) fun aG=>
 (if ((ae (aG.1.1- s.2.1))<(ae (s.2.2.1- aG.1.1))) then
 (ai (ct (aG.2.1,(s.2.1,(aG.1.1,(s.2.2.2.1,x.2.2.2.2))))) fun cu=>
 (Sum.inl (cu.2.1,((ae (aG.1.1+(1:Int))),(s.2.2.1,(s.2.2.2.1,((decide ((ae (aG.1.1- s.2.1))>=(ae (Int.tdiv (ae (s.2.2.1- s.2.1)) (8:Int))))),aG.1.2))))))) else
 (ai (ct (aG.2.1,((ae (aG.1.1+(1:Int))),(s.2.2.1,(s.2.2.2.1,x.2.2.2.2))))) fun cu=>
 (Sum.inl (cu.2.1,(s.2.1,(aG.1.1,(s.2.2.2.1,((decide ((ae (s.2.2.1- aG.1.1))>=(ae (Int.tdiv (ae (s.2.2.1- s.2.1)) (8:Int))))),aG.1.2))))))))))) else
 (ai (bn (y_2.2.1,(s.2.1,(s.2.2.1,((ae ((ae (s.2.2.1- (1:Int)))- (ae (y.1- s.2.1)))),x.2.2.2.2))))) fun au=>
 (if ((ae (au.1.1- s.2.1))<(ae (s.2.2.1- au.1.1))) then
 (ai (ct (au.2.1,(s.2.1,(au.1.1,(s.2.2.2.1,x.2.2.2.2))))) fun aG=>
 (Sum.inl (aG.2.1,((ae (au.1.1+(1:Int))),(s.2.2.1,(s.2.2.2.1,((decide ((ae (au.1.1- s.2.1))>=(ae (Int.tdiv (ae (s.2.2.1- s.2.1)) (8:Int))))),au.1.2))))))) else
 (ai (ct (au.2.1,((ae (au.1.1+(1:Int))),(s.2.2.1,(s.2.2.2.1,x.2.2.2.2))))) fun aG=>
 (Sum.inl (aG.2.1,(s.2.1,(au.1.1,(s.2.2.2.1,((decide ((ae (s.2.2.1- au.1.1))>=(ae (Int.tdiv (ae (s.2.2.1- s.2.1)) (8:Int))))),au.1.2)))))))))))) else
 (if (s.2.1>(0:Int)) then
 (ai (jQ (x.2.2.2.2,((List.getD aq.2.1 (Int.toNat (ae (s.2.1- (1:Int)))) (0:Int)),(List.getD aq.2.1 (Int.toNat (ae ((ae (s.2.2.1- (1:Int)))- (ae (y.1- s.2.1))))) (0:Int))))) fun y_2=>
 (if ((!(decide (y_2<(0:Int))))=true) then
 (ai (dN (aq.2.1,(s.2.1,(s.2.2.1,((ae ((ae (s.2.2.1- (1:Int)))- (ae (y.1- s.2.1)))),x.2.2.2.2))))) fun au=>
 (Sum.inl (au.2.1,(au.1,(s.2.2.1,(s.2.2.2.1,(s.2.2.2.2.1,s.2.2.2.2.2))))))) else
 (ai (bn (aq.2.1,(s.2.1,(s.2.2.1,((ae ((ae (s.2.2.1- (1:Int)))- (ae (y.1- s.2.1)))),x.2.2.2.2))))) fun au=>
 (if ((ae (au.1.1- s.2.1))<(ae (s.2.2.1- au.1.1))) then
 (ai (ct (au.2.1,(s.2.1,(au.1.1,(s.2.2.2.1,x.2.2.2.2))))) fun aG=>
 (Sum.inl (aG.2.1,((ae (au.1.1+(1:Int))),(s.2.2.1,(s.2.2.2.1,((decide ((ae (au.1.1- s.2.1))>=(ae (Int.tdiv (ae (s.2.2.1- s.2.1)) (8:Int))))),au.1.2))))))) else
 (ai (ct (au.2.1,((ae (au.1.1+(1:Int))),(s.2.2.1,(s.2.2.2.1,x.2.2.2.2))))) fun aG=>
 (Sum.inl (aG.2.1,(s.2.1,(au.1.1,(s.2.2.2.1,((decide ((ae (s.2.2.1- au.1.1))>=(ae (Int.tdiv (ae (s.2.2.1- s.2.1)) (8:Int))))),au.1.2))))))))))) else
 (ai (bn (aq.2.1,(s.2.1,(s.2.2.1,((ae ((ae (s.2.2.1- (1:Int)))- (ae (y.1- s.2.1)))),x.2.2.2.2))))) fun y_2=>
 (if ((ae (y_2.1.1- s.2.1))<(ae (s.2.2.1- y_2.1.1))) then
 (ai (ct (y_2.2.1,(s.2.1,(y_2.1.1,(s.2.2.2.1,x.2.2.2.2))))) fun au=>
 (Sum.inl (au.2.1,((ae (y_2.1.1+(1:Int))),(s.2.2.1,(s.2.2.2.1,((decide ((ae (y_2.1.1- s.2.1))>=(ae (Int.tdiv (ae (s.2.2.1- s.2.1)) (8:Int))))),y_2.1.2))))))) else
 (ai (ct (y_2.2.1,((ae (y_2.1.1+(1:Int))),(s.2.2.1,(s.2.2.2.1,x.2.2.2.2))))) fun au=>
 (Sum.inl (au.2.1,(s.2.1,(y_2.1.1,(s.2.2.2.1,((decide ((ae (s.2.2.1- y_2.1.1))>=(ae (Int.tdiv (ae (s.2.2.1- s.2.1)) (8:Int))))),y_2.1.2))))))))))) else
 (if (s.2.1>(0:Int)) then
 (ai (jQ (x.2.2.2.2,((List.getD aq.2.1 (Int.toNat (ae (s.2.1- (1:Int)))) (0:Int)),(List.getD aq.2.1 (Int.toNat (ae ((ae (s.2.2.1- (1:Int)))- (ae (y.1- s.2.1))))) (0:Int))))) fun y_2=>
 (if ((!(decide (y_2<(0:Int))))=true) then
 (ai (dN (aq.2.1,(s.2.1,(s.2.2.1,((ae ((ae (s.2.2.1- (1:Int)))- (ae (y.1- s.2.1)))),x.2.2.2.2))))) fun au=>
 (Sum.inl (au.2.1,(au.1,(s.2.2.1,(s.2.2.2.1,(s.2.2.2.2.1,s.2.2.2.2.2))))))) else
 (ai (bn (aq.2.1,(s.2.1,(s.2.2.1,((ae ((ae (s.2.2.1- (1:Int)))- (ae (y.1- s.2.1)))),x.2.2.2.2))))) fun au=>
 (if ((ae (au.1.1- s.2.1))<(ae (s.2.2.1- au.1.1))) then
 (ai (ct (au.2.1,(s.2.1,(au.1.1,(s.2.2.2.1,x.2.2.2.2))))) fun aG=>
 (Sum.inl (aG.2.1,((ae (au.1.1+(1:Int))),(s.2.2.1,(s.2.2.2.1,((decide ((ae (au.1.1- s.2.1))>=(ae (Int.tdiv (ae (s.2.2.1- s.2.1)) (8:Int))))),au.1.2))))))) else
 (ai (ct (au.2.1,((ae (au.1.1+(1:Int))),(s.2.2.1,(s.2.2.2.1,x.2.2.2.2))))) fun aG=>
 (Sum.inl (aG.2.1,(s.2.1,(au.1.1,(s.2.2.2.1,((decide ((ae (s.2.2.1- au.1.1))>=(ae (Int.tdiv (ae (s.2.2.1- s.2.1)) (8:Int))))),au.1.2))))))))))) else
 (ai (bn (aq.2.1,(s.2.1,(s.2.2.1,((ae ((ae (s.2.2.1- (1:Int)))- (ae (y.1- s.2.1)))),x.2.2.2.2))))) fun y_2=>
 (if ((ae (y_2.1.1- s.2.1))<(ae (s.2.2.1- y_2.1.1))) then
 (ai (ct (y_2.2.1,(s.2.1,(y_2.1.1,(s.2.2.2.1,x.2.2.2.2))))) fun au=>
 (Sum.inl (au.2.1,((ae (y_2.1.1+(1:Int))),(s.2.2.1,(s.2.2.2.1,((decide ((ae (y_2.1.1- s.2.1))>=(ae (Int.tdiv (ae (s.2.2.1- s.2.1)) (8:Int))))),y_2.1.2))))))) else
 (ai (ct (y_2.2.1,((ae (y_2.1.1+(1:Int))),(s.2.2.1,(s.2.2.2.1,x.2.2.2.2))))) fun au=>
 (Sum.inl (au.2.1,(s.2.1,(y_2.1.1,(s.2.2.2.1,((decide ((ae (s.2.2.1- y_2.1.1))>=(ae (Int.tdiv (ae (s.2.2.1- s.2.1)) (8:Int))))),y_2.1.2)))))))))))) else
 (if (s.2.2.2.2.1=true) then
 (if (s.2.2.2.2.2=true) then
 (if ((y.2==(1:Int))=true) then
 (ai (lC (s.1,(s.2.1,(s.2.2.1,x.2.2.2.2)))) fun aq=>
 (if (aq.1=true) then
 (Sum.inr (aq.2.1)) else
 (if (s.2.1>(0:Int)) then
 (ai (jQ (x.2.2.2.2,((List.getD aq.2.1 (Int.toNat (ae (s.2.1- (1:Int)))) (0:Int)),(List.getD aq.2.1 (Int.toNat y.1) (0:Int))))) fun y_2=>
 (if ((!(decide (y_2<(0:Int))))=true) then
 (ai (dN (aq.2.1,(s.2.1,(s.2.2.1,(y.1,x.2.2.2.2))))) fun au=>
 (Sum.inl (au.2.1,(au.1,(s.2.2.1,(s.2.2.2.1,(s.2.2.2.2.1,s.2.2.2.2.2))))))) else
 (ai (bn (aq.2.1,(s.2.1,(s.2.2.1,(y.1,x.2.2.2.2))))) fun au=>
 (if ((ae (au.1.1- s.2.1))<(ae (s.2.2.1- au.1.1))) then
 (ai (ct (au.2.1,(s.2.1,(au.1.1,(s.2.2.2.1,x.2.2.2.2))))) fun aG=>
 (Sum.inl (aG.2.1,((ae (au.1.1+(1:Int))),(s.2.2.1,(s.2.2.2.1,((decide ((ae (au.1.1- s.2.1))>=(ae (Int.tdiv (ae (s.2.2.1- s.2.1)) (8:Int))))),au.1.2))))))) else
 (ai (ct (au.2.1,((ae (au.1.1+(1:Int))),(s.2.2.1,(s.2.2.2.1,x.2.2.2.2))))) fun aG=>
 (Sum.inl (aG.2.1,(s.2.1,(au.1.1,(s.2.2.2.1,((decide ((ae (s.2.2.1- au.1.1))>=(ae (Int.tdiv (ae (s.2.2.1- s.2.1)) (8:Int))))),au.1.2))))))))))) else
 (ai (bn (aq.2.1,(s.2.1,(s.2.2.1,(y.1,x.2.2.2.2))))) fun y_2=>
 (if ((ae (y_2.1.1- s.2.1))<(ae (s.2.2.1- y_2.1.1))) then
 (ai (ct (y_2.2.1,(s.2.1,(y_2.1.1,(s.2.2.2.1,x.2.2.2.2))))) fun au=>
 (Sum.inl (au.2.1,((ae (y_2.1.1+(1:Int))),(s.2.2.1,(s.2.2.2.1,((decide ((ae (y_2.1.1- s.2.1))>=(ae (Int.tdiv (ae (s.2.2.1- s.2.1)) (8:Int))))),y_2.1.2))))))) else
 (ai (ct (y_2.2.1,((ae (y_2.1.1+(1:Int))),(s.2.2.1,(s.2.2.2.1,x.2.2.2.2))))) fun au=>
 (Sum.inl (au.2.1,(s.2.1,(y_2.1.1,(s.2.2.2.1,((decide ((ae (s.2.2.1- y_2.1.1))>=(ae (Int.tdiv (ae (s.2.2.1- s.2.1)) (8:Int))))),y_2.1.2)))))))))))) else
 (if (s.2.1>(0:Int)) then
 (ai (jQ (x.2.2.2.2,((List.getD s.1 (Int.toNat (ae (s.2.1- (1:Int)))) (0:Int)),(List.getD s.1 (Int.toNat y.1) (0:Int))))) fun aq=>
 (if ((!(decide (aq<(0:Int))))=true) then
 (ai (dN (s.1,(s.2.1,(s.2.2.1,(y.1,x.2.2.2.2))))) fun y_2=>
 (Sum.inl (y_2.2.1,(y_2.1,(s.2.2.1,(s.2.2.2.1,(s.2.2.2.2.1,s.2.2.2.2.2))))))) else
 (ai (bn (s.1,(s.2.1,(s.2.2.1,(y.1,x.2.2.2.2))))) fun y_2=>
 (if ((ae (y_2.1.1- s.2.1))<(ae (s.2.2.1- y_2.1.1))) then
 (ai (ct (y_2.2.1,(s.2.1,(y_2.1.1,(s.2.2.2.1,x.2.2.2.2))))) fun au=>
 (Sum.inl (au.2.1,((ae (y_2.1.1+(1:Int))),(s.2.2.1,(s.2.2.2.1,((decide ((ae (y_2.1.1- s.2.1))>=(ae (Int.tdiv (ae (s.2.2.1- s.2.1)) (8:Int))))),y_2.1.2))))))) else
 (ai (ct (y_2.2.1,((ae (y_2.1.1+(1:Int))),(s.2.2.1,(s.2.2.2.1,x.2.2.2.2))))) fun au=>
 (Sum.inl (au.2.1,(s.2.1,(y_2.1.1,(s.2.2.2.1,((decide ((ae (s.2.2.1- y_2.1.1))>=(ae (Int.tdiv (ae (s.2.2.1- s.2.1)) (8:Int))))),y_2.1.2))))))))))) else
 (ai (bn (s.1,(s.2.1,(s.2.2.1,(y.1,x.2.2.2.2))))) fun aq=>
 (if ((ae (aq.1.1- s.2.1))<(ae (s.2.2.1- aq.1.1))) then
 (ai (ct (aq.2.1,(s.2.1,(aq.1.1,(s.2.2.2.1,x.2.2.2.2))))) fun y_2=>
 (Sum.inl (y_2.2.1,((ae (aq.1.1+(1:Int))),(s.2.2.1,(s.2.2.2.1,((decide ((ae (aq.1.1- s.2.1))>=(ae (Int.tdiv (ae (s.2.2.1- s.2.1)) (8:Int))))),aq.1.2))))))) else
 (ai (ct (aq.2.1,((ae (aq.1.1+(1:Int))),(s.2.2.1,(s.2.2.2.1,x.2.2.2.2))))) fun y_2=>
 (Sum.inl (y_2.2.1,(s.2.1,(aq.1.1,(s.2.2.2.1,((decide ((ae (s.2.2.1- aq.1.1))>=(ae (Int.tdiv (ae (s.2.2.1- s.2.1)) (8:Int))))),aq.1.2))))))))))) else
 (if (s.2.1>(0:Int)) then
 (ai (jQ (x.2.2.2.2,((List.getD s.1 (Int.toNat (ae (s.2.1- (1:Int)))) (0:Int)),(List.getD s.1 (Int.toNat y.1) (0:Int))))) fun aq=>
 (if ((!(decide (aq<(0:Int))))=true) then
 (ai (dN (s.1,(s.2.1,(s.2.2.1,(y.1,x.2.2.2.2))))) fun y_2=>
 (Sum.inl (y_2.2.1,(y_2.1,(s.2.2.1,(s.2.2.2.1,(s.2.2.2.2.1,s.2.2.2.2.2))))))) else
 (ai (bn (s.1,(s.2.1,(s.2.2.1,(y.1,x.2.2.2.2))))) fun y_2=>
 (if ((ae (y_2.1.1- s.2.1))<(ae (s.2.2.1- y_2.1.1))) then
 (ai (ct (y_2.2.1,(s.2.1,(y_2.1.1,(s.2.2.2.1,x.2.2.2.2))))) fun au=>
 (Sum.inl (au.2.1,((ae (y_2.1.1+(1:Int))),(s.2.2.1,(s.2.2.2.1,((decide ((ae (y_2.1.1- s.2.1))>=(ae (Int.tdiv (ae (s.2.2.1- s.2.1)) (8:Int))))),y_2.1.2))))))) else
 (ai (ct (y_2.2.1,((ae (y_2.1.1+(1:Int))),(s.2.2.1,(s.2.2.2.1,x.2.2.2.2))))) fun au=>
 (Sum.inl (au.2.1,(s.2.1,(y_2.1.1,(s.2.2.2.1,((decide ((ae (s.2.2.1- y_2.1.1))>=(ae (Int.tdiv (ae (s.2.2.1- s.2.1)) (8:Int))))),y_2.1.2))))))))))) else
 (ai (bn (s.1,(s.2.1,(s.2.2.1,(y.1,x.2.2.2.2))))) fun aq=>
 (if ((ae (aq.1.1- s.2.1))<(ae (s.2.2.1- aq.1.1))) then
 (ai (ct (aq.2.1,(s.2.1,(aq.1.1,(s.2.2.2.1,x.2.2.2.2))))) fun y_2=>
 (Sum.inl (y_2.2.1,((ae (aq.1.1+(1:Int))),(s.2.2.1,(s.2.2.2.1,((decide ((ae (aq.1.1- s.2.1))>=(ae (Int.tdiv (ae (s.2.2.1- s.2.1)) (8:Int))))),aq.1.2))))))) else
 (ai (ct (aq.2.1,((ae (aq.1.1+(1:Int))),(s.2.2.1,(s.2.2.2.1,x.2.2.2.2))))) fun y_2=>
 (Sum.inl (y_2.2.1,(s.2.1,(aq.1.1,(s.2.2.2.1,((decide ((ae (s.2.2.1- aq.1.1))>=(ae (Int.tdiv (ae (s.2.2.1- s.2.1)) (8:Int))))),aq.1.2))))))))))) else
 (if (s.2.1>(0:Int)) then
 (ai (jQ (x.2.2.2.2,((List.getD s.1 (Int.toNat (ae (s.2.1- (1:Int)))) (0:Int)),(List.getD s.1 (Int.toNat y.1) (0:Int))))) fun aq=>
 (if ((!(decide (aq<(0:Int))))=true) then
 (ai (dN (s.1,(s.2.1,(s.2.2.1,(y.1,x.2.2.2.2))))) fun y_2=>
 (Sum.inl (y_2.2.1,(y_2.1,(s.2.2.1,(s.2.2.2.1,(s.2.2.2.2.1,s.2.2.2.2.2))))))) else
 (ai (bn (s.1,(s.2.1,(s.2.2.1,(y.1,x.2.2.2.2))))) fun y_2=>
 (if ((ae (y_2.1.1- s.2.1))<(ae (s.2.2.1- y_2.1.1))) then
 (ai (ct (y_2.2.1,(s.2.1,(y_2.1.1,(s.2.2.2.1,x.2.2.2.2))))) fun au=>
 (Sum.inl (au.2.1,((ae (y_2.1.1+(1:Int))),(s.2.2.1,(s.2.2.2.1,((decide ((ae (y_2.1.1- s.2.1))>=(ae (Int.tdiv (ae (s.2.2.1- s.2.1)) (8:Int))))),y_2.1.2))))))) else
 (ai (ct (y_2.2.1,((ae (y_2.1.1+(1:Int))),(s.2.2.1,(s.2.2.2.1,x.2.2.2.2))))) fun au=>
 (Sum.inl (au.2.1,(s.2.1,(y_2.1.1,(s.2.2.2.1,((decide ((ae (s.2.2.1- y_2.1.1))>=(ae (Int.tdiv (ae (s.2.2.1- s.2.1)) (8:Int))))),y_2.1.2))))))))))) else
 (ai (bn (s.1,(s.2.1,(s.2.2.1,(y.1,x.2.2.2.2))))) fun aq=>
 (if ((ae (aq.1.1- s.2.1))<(ae (s.2.2.1- aq.1.1))) then
 (ai (ct (aq.2.1,(s.2.1,(aq.1.1,(s.2.2.2.1,x.2.2.2.2))))) fun y_2=>
 (Sum.inl (y_2.2.1,((ae (aq.1.1+(1:Int))),(s.2.2.1,(s.2.2.2.1,((decide ((ae (aq.1.1- s.2.1))>=(ae (Int.tdiv (ae (s.2.2.1- s.2.1)) (8:Int))))),aq.1.2))))))) else
 (ai (ct (aq.2.1,((ae (aq.1.1+(1:Int))),(s.2.2.1,(s.2.2.2.1,x.2.2.2.2))))) fun y_2=>
 (Sum.inl (y_2.2.1,(s.2.1,(aq.1.1,(s.2.2.2.1,((decide ((ae (s.2.2.1- aq.1.1))>=(ae (Int.tdiv (ae (s.2.2.1- s.2.1)) (8:Int))))),aq.1.2))))))))))))))))
def gq (x:((List Int)×(Int×(Int×(Int×((List I9)×Int)))))) (s:((List Int)×(Int×(Int×(Int×(Bool×Bool)))))):Prop:=
 ((((ae (s.2.2.1- s.2.1))<=(12:Int))->
 (rE (s.1,(s.2.1,(s.2.2.1,x.2.2.2.2)))))/\
 (¬((ae (s.2.2.1- s.2.1))<=(12:Int))->
 ((((s.2.2.2.1==(0:Int))=true)->
 (oP (s.1,(s.2.1,(s.2.2.1,x.2.2.2.2)))))/\
 (¬((s.2.2.2.1==(0:Int))=true)->
 ((((!s.2.2.2.2.1)=true)->
 ((oK (s.1,(s.2.1,(s.2.2.1,x.2.2.2.2))))/\
 az (HA (s.1,(s.2.1,(s.2.2.1,x.2.2.2.2)))) fun y=>
 ((lE (y.2.1,(s.2.1,(s.2.2.1,x.2.2.2.2))))/\
 az (zN (y.2.1,(s.2.1,(s.2.2.1,x.2.2.2.2)))) fun aq=>
 ((((aq.2==(2:Int))=true)->
 ((oS (y.2.1,(s.2.1,(s.2.2.1,x.2.2.2.2))))/\
 az (DL (y.2.1,(s.2.1,(s.2.2.1,x.2.2.2.2)))) fun y_2=>
 (((s.2.2.2.2.1=true)->
 (((s.2.2.2.2.2=true)->
 ((jg (y_2.2.1,(s.2.1,(s.2.2.1,x.2.2.2.2))))/\
 az (lC (y_2.2.1,(s.2.1,(s.2.2.1,x.2.2.2.2)))) fun au=>
 (¬(au.1=true)->
 (((s.2.1>(0:Int))->
 ((((0:Int)<=(ae (s.2.1- (1:Int))))/\ ((ae (s.2.1- (1:Int)))<(au.2.1.length:Int)))/\
 (((Int.toNat (ae (s.2.1- (1:Int))))<(List.length au.2.1))/\
 (((Int.toNat (ae (s.2.1- (1:Int))))<(List.length au.2.1))/\
 ((((0:Int)<=(ae ((ae (s.2.2.1- (1:Int)))- (ae (aq.1- s.2.1)))))/\ ((ae ((ae (s.2.2.1- (1:Int)))- (ae (aq.1- s.2.1))))<(au.2.1.length:Int)))/\
 (((Int.toNat (ae ((ae (s.2.2.1- (1:Int)))- (ae (aq.1- s.2.1)))))<(List.length au.2.1))/\
 (((Int.toNat (ae ((ae (s.2.2.1- (1:Int)))- (ae (aq.1- s.2.1)))))<(List.length au.2.1))/\
 ((bI (x.2.2.2.2,((List.getD au.2.1 (Int.toNat (ae (s.2.1- (1:Int)))) (0:Int)),(List.getD au.2.1 (Int.toNat (ae ((ae (s.2.2.1- (1:Int)))- (ae (aq.1- s.2.1))))) (0:Int)))))/\
 az (jQ (x.2.2.2.2,((List.getD au.2.1 (Int.toNat (ae (s.2.1- (1:Int)))) (0:Int)),(List.getD au.2.1 (Int.toNat (ae ((ae (s.2.2.1- (1:Int)))- (ae (aq.1- s.2.1))))) (0:Int))))) fun aG=>
 ((((!(decide (aG<(0:Int))))=true)->
 (b7 (au.2.1,(s.2.1,(s.2.2.1,((ae ((ae (s.2.2.1- (1:Int)))- (ae (aq.1- s.2.1)))),x.2.2.2.2))))))/\
 (¬((!(decide (aG<(0:Int))))=true)->
 ((aU (au.2.1,(s.2.1,(s.2.2.1,((ae ((ae (s.2.2.1- (1:Int)))- (ae (aq.1- s.2.1)))),x.2.2.2.2)))))/\
 az (bn (au.2.1,(s.2.1,(s.2.2.1,((ae ((ae (s.2.2.1- (1:Int)))- (ae (aq.1- s.2.1)))),x.2.2.2.2))))) fun cu=>
 ((((ae (cu.1.1- s.2.1))<(ae (s.2.2.1- cu.1.1)))->
 (aH (cu.2.1,(s.2.1,(cu.1.1,((ae (s.2.2.2.1- (1:Int))),x.2.2.2.2))))))/\
 (¬((ae (cu.1.1- s.2.1))<(ae (s.2.2.1- cu.1.1)))->
 (aH (cu.2.1,((ae (cu.1.1+(1:Int))),(s.2.2.1,((ae (s.2.2.2.1- (1:Int))),x.2.2.2.2))))))))))))))))))/\
 (¬(s.2.1>(0:Int))->
 ((aU (au.2.1,(s.2.1,(s.2.2.1,((ae ((ae (s.2.2.1- (1:Int)))- (ae (aq.1- s.2.1)))),x.2.2.2.2)))))/\
 az (bn (au.2.1,(s.2.1,(s.2.2.1,((ae ((ae (s.2.2.1- (1:Int)))- (ae (aq.1- s.2.1)))),x.2.2.2.2))))) fun aG=>
 ((((ae (aG.1.1- s.2.1))<(ae (s.2.2.1- aG.1.1)))->
 (aH (aG.2.1,(s.2.1,(aG.1.1,((ae (s.2.2.2.1- (1:Int))),x.2.2.2.2))))))/\
 (¬((ae (aG.1.1- s.2.1))<(ae (s.2.2.1- aG.1.1)))->
 (aH (aG.2.1,((ae (aG.1.1+(1:Int))),(s.2.2.1,((ae (s.2.2.2.1- (1:Int))),x.2.2.2.2)))))))))))))/\
 (¬(s.2.2.2.2.2=true)->
 (((s.2.1>(0:Int))->
 ((((0:Int)<=(ae (s.2.1- (1:Int))))/\ ((ae (s.2.1- (1:Int)))<(y_2.2.1.length:Int)))/\
 (((Int.toNat (ae (s.2.1- (1:Int))))<(List.length y_2.2.1))/\
 (((Int.toNat (ae (s.2.1- (1:Int))))<(List.length y_2.2.1))/\
 ((((0:Int)<=(ae ((ae (s.2.2.1- (1:Int)))- (ae (aq.1- s.2.1)))))/\ ((ae ((ae (s.2.2.1- (1:Int)))- (ae (aq.1- s.2.1))))<(y_2.2.1.length:Int)))/\
 (((Int.toNat (ae ((ae (s.2.2.1- (1:Int)))- (ae (aq.1- s.2.1)))))<(List.length y_2.2.1))/\
 (((Int.toNat (ae ((ae (s.2.2.1- (1:Int)))- (ae (aq.1- s.2.1)))))<(List.length y_2.2.1))/\
 ((bI (x.2.2.2.2,((List.getD y_2.2.1 (Int.toNat (ae (s.2.1- (1:Int)))) (0:Int)),(List.getD y_2.2.1 (Int.toNat (ae ((ae (s.2.2.1- (1:Int)))- (ae (aq.1- s.2.1))))) (0:Int)))))/\
 az (jQ (x.2.2.2.2,((List.getD y_2.2.1 (Int.toNat (ae (s.2.1- (1:Int)))) (0:Int)),(List.getD y_2.2.1 (Int.toNat (ae ((ae (s.2.2.1- (1:Int)))- (ae (aq.1- s.2.1))))) (0:Int))))) fun au=>
 ((((!(decide (au<(0:Int))))=true)->
 (b7 (y_2.2.1,(s.2.1,(s.2.2.1,((ae ((ae (s.2.2.1- (1:Int)))- (ae (aq.1- s.2.1)))),x.2.2.2.2))))))/\
 (¬((!(decide (au<(0:Int))))=true)->
 ((aU (y_2.2.1,(s.2.1,(s.2.2.1,((ae ((ae (s.2.2.1- (1:Int)))- (ae (aq.1- s.2.1)))),x.2.2.2.2)))))/\
 az (bn (y_2.2.1,(s.2.1,(s.2.2.1,((ae ((ae (s.2.2.1- (1:Int)))- (ae (aq.1- s.2.1)))),x.2.2.2.2))))) fun aG=>
 ((((ae (aG.1.1- s.2.1))<(ae (s.2.2.1- aG.1.1)))->
 (aH (aG.2.1,(s.2.1,(aG.1.1,((ae (s.2.2.2.1- (1:Int))),x.2.2.2.2))))))/\
 (¬((ae (aG.1.1- s.2.1))<(ae (s.2.2.1- aG.1.1)))->
 (aH (aG.2.1,((ae (aG.1.1+(1:Int))),(s.2.2.1,((ae (s.2.2.2.1- (1:Int))),x.2.2.2.2))))))))))))))))))/\
 (¬(s.2.1>(0:Int))->
 ((aU (y_2.2.1,(s.2.1,(s.2.2.1,((ae ((ae (s.2.2.1- (1:Int)))- (ae (aq.1- s.2.1)))),x.2.2.2.2)))))/\
 az (bn (y_2.2.1,(s.2.1,(s.2.2.1,((ae ((ae (s.2.2.1- (1:Int)))- (ae (aq.1- s.2.1)))),x.2.2.2.2))))) fun au=>
 ((((ae (au.1.1- s.2.1))<(ae (s.2.2.1- au.1.1)))->
 (aH (au.2.1,(s.2.1,(au.1.1,((ae (s.2.2.2.1- (1:Int))),x.2.2.2.2))))))/\
 (¬((ae (au.1.1- s.2.1))<(ae (s.2.2.1- au.1.1)))->
 (aH (au.2.1,((ae (au.1.1+(1:Int))),(s.2.2.1,((ae (s.2.2.2.1- (1:Int))),x.2.2.2.2)))))))))))))/\
 (¬(s.2.2.2.2.1=true)->
 (((s.2.1>(0:Int))->
 ((((0:Int)<=(ae (s.2.1- (1:Int))))/\ ((ae (s.2.1- (1:Int)))<(y_2.2.1.length:Int)))/\
 (((Int.toNat (ae (s.2.1- (1:Int))))<(List.length y_2.2.1))/\
 (((Int.toNat (ae (s.2.1- (1:Int))))<(List.length y_2.2.1))/\
 ((((0:Int)<=(ae ((ae (s.2.2.1- (1:Int)))- (ae (aq.1- s.2.1)))))/\ ((ae ((ae (s.2.2.1- (1:Int)))- (ae (aq.1- s.2.1))))<(y_2.2.1.length:Int)))/\
 (((Int.toNat (ae ((ae (s.2.2.1- (1:Int)))- (ae (aq.1- s.2.1)))))<(List.length y_2.2.1))/\
 (((Int.toNat (ae ((ae (s.2.2.1- (1:Int)))- (ae (aq.1- s.2.1)))))<(List.length y_2.2.1))/\
 ((bI (x.2.2.2.2,((List.getD y_2.2.1 (Int.toNat (ae (s.2.1- (1:Int)))) (0:Int)),(List.getD y_2.2.1 (Int.toNat (ae ((ae (s.2.2.1- (1:Int)))- (ae (aq.1- s.2.1))))) (0:Int)))))/\
 az (jQ (x.2.2.2.2,((List.getD y_2.2.1 (Int.toNat (ae (s.2.1- (1:Int)))) (0:Int)),(List.getD y_2.2.1 (Int.toNat (ae ((ae (s.2.2.1- (1:Int)))- (ae (aq.1- s.2.1))))) (0:Int))))) fun au=>
 ((((!(decide (au<(0:Int))))=true)->
 (b7 (y_2.2.1,(s.2.1,(s.2.2.1,((ae ((ae (s.2.2.1- (1:Int)))- (ae (aq.1- s.2.1)))),x.2.2.2.2))))))/\
 (¬((!(decide (au<(0:Int))))=true)->
 ((aU (y_2.2.1,(s.2.1,(s.2.2.1,((ae ((ae (s.2.2.1- (1:Int)))- (ae (aq.1- s.2.1)))),x.2.2.2.2)))))/\
 az (bn (y_2.2.1,(s.2.1,(s.2.2.1,((ae ((ae (s.2.2.1- (1:Int)))- (ae (aq.1- s.2.1)))),x.2.2.2.2))))) fun aG=>
 ((((ae (aG.1.1- s.2.1))<(ae (s.2.2.1- aG.1.1)))->
 (aH (aG.2.1,(s.2.1,(aG.1.1,((ae (s.2.2.2.1- (1:Int))),x.2.2.2.2))))))/\
 (¬((ae (aG.1.1- s.2.1))<(ae (s.2.2.1- aG.1.1)))->
 (aH (aG.2.1,((ae (aG.1.1+(1:Int))),(s.2.2.1,((ae (s.2.2.2.1- (1:Int))),x.2.2.2.2))))))))))))))))))/\
 (¬(s.2.1>(0:Int))->
 ((aU (y_2.2.1,(s.2.1,(s.2.2.1,((ae ((ae (s.2.2.1- (1:Int)))- (ae (aq.1- s.2.1)))),x.2.2.2.2)))))/\
 az (bn (y_2.2.1,(s.2.1,(s.2.2.1,((ae ((ae (s.2.2.1- (1:Int)))- (ae (aq.1- s.2.1)))),x.2.2.2.2))))) fun au=>
 ((((ae (au.1.1- s.2.1))<(ae (s.2.2.1- au.1.1)))->
 (aH (au.2.1,(s.2.1,(au.1.1,((ae (s.2.2.2.1- (1:Int))),x.2.2.2.2))))))/\
 (¬((ae (au.1.1- s.2.1))<(ae (s.2.2.1- au.1.1)))->
 (aH (au.2.1,((ae (au.1.1+(1:Int))),(s.2.2.1,((ae (s.2.2.2.1- (1:Int))),x.2.2.2.2))))))))))))))/\
 (¬((aq.2==(2:Int))=true)->
 (((s.2.2.2.2.1=true)->
 (((s.2.2.2.2.2=true)->
 ((((aq.2==(1:Int))=true)->
 ((jg (y.2.1,(s.2.1,(s.2.2.1,x.2.2.2.2))))/\
 az (lC (y.2.1,(s.2.1,(s.2.2.1,x.2.2.2.2)))) fun y_2=>
 (¬(y_2.1=true)->
 (((s.2.1>(0:Int))->
 ((((0:Int)<=(ae (s.2.1- (1:Int))))/\ ((ae (s.2.1- (1:Int)))<(y_2.2.1.length:Int)))/\
 (((Int.toNat (ae (s.2.1- (1:Int))))<(List.length y_2.2.1))/\
 (((Int.toNat (ae (s.2.1- (1:Int))))<(List.length y_2.2.1))/\
 ((((0:Int)<=aq.1)/\ (aq.1<(y_2.2.1.length:Int)))/\
 (((Int.toNat aq.1)<(List.length y_2.2.1))/\
 (((Int.toNat aq.1)<(List.length y_2.2.1))/\
 ((bI (x.2.2.2.2,((List.getD y_2.2.1 (Int.toNat (ae (s.2.1- (1:Int)))) (0:Int)),(List.getD y_2.2.1 (Int.toNat aq.1) (0:Int)))))/\
 az (jQ (x.2.2.2.2,((List.getD y_2.2.1 (Int.toNat (ae (s.2.1- (1:Int)))) (0:Int)),(List.getD y_2.2.1 (Int.toNat aq.1) (0:Int))))) fun au=>
 ((((!(decide (au<(0:Int))))=true)->
 (b7 (y_2.2.1,(s.2.1,(s.2.2.1,(aq.1,x.2.2.2.2))))))/\
 (¬((!(decide (au<(0:Int))))=true)->
 ((aU (y_2.2.1,(s.2.1,(s.2.2.1,(aq.1,x.2.2.2.2)))))/\
 az (bn (y_2.2.1,(s.2.1,(s.2.2.1,(aq.1,x.2.2.2.2))))) fun aG=>
 ((((ae (aG.1.1- s.2.1))<(ae (s.2.2.1- aG.1.1)))->
 (aH (aG.2.1,(s.2.1,(aG.1.1,((ae (s.2.2.2.1- (1:Int))),x.2.2.2.2))))))/\
 (¬((ae (aG.1.1- s.2.1))<(ae (s.2.2.1- aG.1.1)))->
 (aH (aG.2.1,((ae (aG.1.1+(1:Int))),(s.2.2.1,((ae (s.2.2.2.1- (1:Int))),x.2.2.2.2))))))))))))))))))/\
 (¬(s.2.1>(0:Int))->
 ((aU (y_2.2.1,(s.2.1,(s.2.2.1,(aq.1,x.2.2.2.2)))))/\
 az (bn (y_2.2.1,(s.2.1,(s.2.2.1,(aq.1,x.2.2.2.2))))) fun au=>
 ((((ae (au.1.1- s.2.1))<(ae (s.2.2.1- au.1.1)))->
 (aH (au.2.1,(s.2.1,(au.1.1,((ae (s.2.2.2.1- (1:Int))),x.2.2.2.2))))))/\
 (¬((ae (au.1.1- s.2.1))<(ae (s.2.2.1- au.1.1)))->
 (aH (au.2.1,((ae (au.1.1+(1:Int))),(s.2.2.1,((ae (s.2.2.2.1- (1:Int))),x.2.2.2.2)))))))))))))/\
 (¬((aq.2==(1:Int))=true)->
 (((s.2.1>(0:Int))->
 ((((0:Int)<=(ae (s.2.1- (1:Int))))/\ ((ae (s.2.1- (1:Int)))<(y.2.1.length:Int)))/\
 (((Int.toNat (ae (s.2.1- (1:Int))))<(List.length y.2.1))/\
 (((Int.toNat (ae (s.2.1- (1:Int))))<(List.length y.2.1))/\
 ((((0:Int)<=aq.1)/\ (aq.1<(y.2.1.length:Int)))/\
 (((Int.toNat aq.1)<(List.length y.2.1))/\
 (((Int.toNat aq.1)<(List.length y.2.1))/\
 ((bI (x.2.2.2.2,((List.getD y.2.1 (Int.toNat (ae (s.2.1- (1:Int)))) (0:Int)),(List.getD y.2.1 (Int.toNat aq.1) (0:Int)))))/\
 az (jQ (x.2.2.2.2,((List.getD y.2.1 (Int.toNat (ae (s.2.1- (1:Int)))) (0:Int)),(List.getD y.2.1 (Int.toNat aq.1) (0:Int))))) fun y_2=>
 ((((!(decide (y_2<(0:Int))))=true)->
 (b7 (y.2.1,(s.2.1,(s.2.2.1,(aq.1,x.2.2.2.2))))))/\
 (¬((!(decide (y_2<(0:Int))))=true)->
 ((aU (y.2.1,(s.2.1,(s.2.2.1,(aq.1,x.2.2.2.2)))))/\
 az (bn (y.2.1,(s.2.1,(s.2.2.1,(aq.1,x.2.2.2.2))))) fun au=>
 ((((ae (au.1.1- s.2.1))<(ae (s.2.2.1- au.1.1)))->
 (aH (au.2.1,(s.2.1,(au.1.1,((ae (s.2.2.2.1- (1:Int))),x.2.2.2.2))))))/\
 (¬((ae (au.1.1- s.2.1))<(ae (s.2.2.1- au.1.1)))->
 (aH (au.2.1,((ae (au.1.1+(1:Int))),(s.2.2.1,((ae (s.2.2.2.1- (1:Int))),x.2.2.2.2))))))))))))))))))/\
 (¬(s.2.1>(0:Int))->
 ((aU (y.2.1,(s.2.1,(s.2.2.1,(aq.1,x.2.2.2.2)))))/\
 az (bn (y.2.1,(s.2.1,(s.2.2.1,(aq.1,x.2.2.2.2))))) fun y_2=>
 ((((ae (y_2.1.1- s.2.1))<(ae (s.2.2.1- y_2.1.1)))->
 (aH (y_2.2.1,(s.2.1,(y_2.1.1,((ae (s.2.2.2.1- (1:Int))),x.2.2.2.2))))))/\
 (¬((ae (y_2.1.1- s.2.1))<(ae (s.2.2.1- y_2.1.1)))->
 (aH (y_2.2.1,((ae (y_2.1.1+(1:Int))),(s.2.2.1,((ae (s.2.2.2.1- (1:Int))),x.2.2.2.2)))))))))))))/\
 (¬(s.2.2.2.2.2=true)->
 (((s.2.1>(0:Int))->
 ((((0:Int)<=(ae (s.2.1- (1:Int))))/\ ((ae (s.2.1- (1:Int)))<(y.2.1.length:Int)))/\
 (((Int.toNat (ae (s.2.1- (1:Int))))<(List.length y.2.1))/\
 (((Int.toNat (ae (s.2.1- (1:Int))))<(List.length y.2.1))/\
 ((((0:Int)<=aq.1)/\ (aq.1<(y.2.1.length:Int)))/\
 (((Int.toNat aq.1)<(List.length y.2.1))/\
 (((Int.toNat aq.1)<(List.length y.2.1))/\
 ((bI (x.2.2.2.2,((List.getD y.2.1 (Int.toNat (ae (s.2.1- (1:Int)))) (0:Int)),(List.getD y.2.1 (Int.toNat aq.1) (0:Int)))))/\
 az (jQ (x.2.2.2.2,((List.getD y.2.1 (Int.toNat (ae (s.2.1- (1:Int)))) (0:Int)),(List.getD y.2.1 (Int.toNat aq.1) (0:Int))))) fun y_2=>
 ((((!(decide (y_2<(0:Int))))=true)->
 (b7 (y.2.1,(s.2.1,(s.2.2.1,(aq.1,x.2.2.2.2))))))/\
 (¬((!(decide (y_2<(0:Int))))=true)->
 ((aU (y.2.1,(s.2.1,(s.2.2.1,(aq.1,x.2.2.2.2)))))/\
 az (bn (y.2.1,(s.2.1,(s.2.2.1,(aq.1,x.2.2.2.2))))) fun au=>
 ((((ae (au.1.1- s.2.1))<(ae (s.2.2.1- au.1.1)))->
 (aH (au.2.1,(s.2.1,(au.1.1,((ae (s.2.2.2.1- (1:Int))),x.2.2.2.2))))))/\
 (¬((ae (au.1.1- s.2.1))<(ae (s.2.2.1- au.1.1)))->
 (aH (au.2.1,((ae (au.1.1+(1:Int))),(s.2.2.1,((ae (s.2.2.2.1- (1:Int))),x.2.2.2.2))))))))))))))))))/\
 (¬(s.2.1>(0:Int))->
 ((aU (y.2.1,(s.2.1,(s.2.2.1,(aq.1,x.2.2.2.2)))))/\
 az (bn (y.2.1,(s.2.1,(s.2.2.1,(aq.1,x.2.2.2.2))))) fun y_2=>
 ((((ae (y_2.1.1- s.2.1))<(ae (s.2.2.1- y_2.1.1)))->
 (aH (y_2.2.1,(s.2.1,(y_2.1.1,((ae (s.2.2.2.1- (1:Int))),x.2.2.2.2))))))/\
 (¬((ae (y_2.1.1- s.2.1))<(ae (s.2.2.1- y_2.1.1)))->
 (aH (y_2.2.1,((ae (y_2.1.1+(1:Int))),(s.2.2.1,((ae (s.2.2.2.1- (1:Int))),x.2.2.2.2)))))))))))))/\
 (¬(s.2.2.2.2.1=true)->
 (((s.2.1>(0:Int))->
 ((((0:Int)<=(ae (s.2.1- (1:Int))))/\ ((ae (s.2.1- (1:Int)))<(y.2.1.length:Int)))/\
 (((Int.toNat (ae (s.2.1- (1:Int))))<(List.length y.2.1))/\
 (((Int.toNat (ae (s.2.1- (1:Int))))<(List.length y.2.1))/\
 ((((0:Int)<=aq.1)/\ (aq.1<(y.2.1.length:Int)))/\
 (((Int.toNat aq.1)<(List.length y.2.1))/\
 (((Int.toNat aq.1)<(List.length y.2.1))/\
 ((bI (x.2.2.2.2,((List.getD y.2.1 (Int.toNat (ae (s.2.1- (1:Int)))) (0:Int)),(List.getD y.2.1 (Int.toNat aq.1) (0:Int)))))/\
 az (jQ (x.2.2.2.2,((List.getD y.2.1 (Int.toNat (ae (s.2.1- (1:Int)))) (0:Int)),(List.getD y.2.1 (Int.toNat aq.1) (0:Int))))) fun y_2=>
 ((((!(decide (y_2<(0:Int))))=true)->
 (b7 (y.2.1,(s.2.1,(s.2.2.1,(aq.1,x.2.2.2.2))))))/\
 (¬((!(decide (y_2<(0:Int))))=true)->
 ((aU (y.2.1,(s.2.1,(s.2.2.1,(aq.1,x.2.2.2.2)))))/\
 az (bn (y.2.1,(s.2.1,(s.2.2.1,(aq.1,x.2.2.2.2))))) fun au=>
 ((((ae (au.1.1- s.2.1))<(ae (s.2.2.1- au.1.1)))->
 (aH (au.2.1,(s.2.1,(au.1.1,((ae (s.2.2.2.1- (1:Int))),x.2.2.2.2))))))/\
 (¬((ae (au.1.1- s.2.1))<(ae (s.2.2.1- au.1.1)))->
 (aH (au.2.1,((ae (au.1.1+(1:Int))),(s.2.2.1,((ae (s.2.2.2.1- (1:Int))),x.2.2.2.2))))))))))))))))))/\
 (¬(s.2.1>(0:Int))->
 ((aU (y.2.1,(s.2.1,(s.2.2.1,(aq.1,x.2.2.2.2)))))/\
 az (bn (y.2.1,(s.2.1,(s.2.2.1,(aq.1,x.2.2.2.2))))) fun y_2=>
 ((((ae (y_2.1.1- s.2.1))<(ae (s.2.2.1- y_2.1.1)))->
 (aH (y_2.2.1,(s.2.1,(y_2.1.1,((ae (s.2.2.2.1- (1:Int))),x.2.2.2.2))))))/\
 (¬((ae (y_2.1.1- s.2.1))<(ae (s.2.2.1- y_2.1.1)))->
 (aH (y_2.2.1,((ae (y_2.1.1+(1:Int))),(s.2.2.1,((ae (s.2.2.2.1- (1:Int))),x.2.2.2.2)))))))))))))))))/\
 (¬((!s.2.2.2.2.1)=true)->
 ((lE (s.1,(s.2.1,(s.2.2.1,x.2.2.2.2))))/\
 az (zN (s.1,(s.2.1,(s.2.2.1,x.2.2.2.2)))) fun y=>
 ((((y.2==(2:Int))=true)->
 ((oS (s.1,(s.2.1,(s.2.2.1,x.2.2.2.2))))/\
 az (DL (s.1,(s.2.1,(s.2.2.1,x.2.2.2.2)))) fun aq=>
 (((s.2.2.2.2.1=true)->
 (((s.2.2.2.2.2=true)->
 ((jg (aq.2.1,(s.2.1,(s.2.2.1,x.2.2.2.2))))/\
 az (lC (aq.2.1,(s.2.1,(s.2.2.1,x.2.2.2.2)))) fun y_2=>
 (¬(y_2.1=true)->
 (((s.2.1>(0:Int))->
 ((((0:Int)<=(ae (s.2.1- (1:Int))))/\ ((ae (s.2.1- (1:Int)))<(y_2.2.1.length:Int)))/\
 (((Int.toNat (ae (s.2.1- (1:Int))))<(List.length y_2.2.1))/\
 (((Int.toNat (ae (s.2.1- (1:Int))))<(List.length y_2.2.1))/\
 ((((0:Int)<=(ae ((ae (s.2.2.1- (1:Int)))- (ae (y.1- s.2.1)))))/\ ((ae ((ae (s.2.2.1- (1:Int)))- (ae (y.1- s.2.1))))<(y_2.2.1.length:Int)))/\
 (((Int.toNat (ae ((ae (s.2.2.1- (1:Int)))- (ae (y.1- s.2.1)))))<(List.length y_2.2.1))/\
 (((Int.toNat (ae ((ae (s.2.2.1- (1:Int)))- (ae (y.1- s.2.1)))))<(List.length y_2.2.1))/\
 ((bI (x.2.2.2.2,((List.getD y_2.2.1 (Int.toNat (ae (s.2.1- (1:Int)))) (0:Int)),(List.getD y_2.2.1 (Int.toNat (ae ((ae (s.2.2.1- (1:Int)))- (ae (y.1- s.2.1))))) (0:Int)))))/\
 az (jQ (x.2.2.2.2,((List.getD y_2.2.1 (Int.toNat (ae (s.2.1- (1:Int)))) (0:Int)),(List.getD y_2.2.1 (Int.toNat (ae ((ae (s.2.2.1- (1:Int)))- (ae (y.1- s.2.1))))) (0:Int))))) fun au=>
 ((((!(decide (au<(0:Int))))=true)->
 (b7 (y_2.2.1,(s.2.1,(s.2.2.1,((ae ((ae (s.2.2.1- (1:Int)))- (ae (y.1- s.2.1)))),x.2.2.2.2))))))/\
 (¬((!(decide (au<(0:Int))))=true)->
 ((aU (y_2.2.1,(s.2.1,(s.2.2.1,((ae ((ae (s.2.2.1- (1:Int)))- (ae (y.1- s.2.1)))),x.2.2.2.2)))))/\
 az (bn (y_2.2.1,(s.2.1,(s.2.2.1,((ae ((ae (s.2.2.1- (1:Int)))- (ae (y.1- s.2.1)))),x.2.2.2.2))))) fun aG=>
 ((((ae (aG.1.1- s.2.1))<(ae (s.2.2.1- aG.1.1)))->
 (aH (aG.2.1,(s.2.1,(aG.1.1,(s.2.2.2.1,x.2.2.2.2))))))/\
 (¬((ae (aG.1.1- s.2.1))<(ae (s.2.2.1- aG.1.1)))->
 (aH (aG.2.1,((ae (aG.1.1+(1:Int))),(s.2.2.1,(s.2.2.2.1,x.2.2.2.2))))))))))))))))))/\
 (¬(s.2.1>(0:Int))->
 ((aU (y_2.2.1,(s.2.1,(s.2.2.1,((ae ((ae (s.2.2.1- (1:Int)))- (ae (y.1- s.2.1)))),x.2.2.2.2)))))/\
 az (bn (y_2.2.1,(s.2.1,(s.2.2.1,((ae ((ae (s.2.2.1- (1:Int)))- (ae (y.1- s.2.1)))),x.2.2.2.2))))) fun au=>
 ((((ae (au.1.1- s.2.1))<(ae (s.2.2.1- au.1.1)))->
 (aH (au.2.1,(s.2.1,(au.1.1,(s.2.2.2.1,x.2.2.2.2))))))/\
 (¬((ae (au.1.1- s.2.1))<(ae (s.2.2.1- au.1.1)))->
 (aH (au.2.1,((ae (au.1.1+(1:Int))),(s.2.2.1,(s.2.2.2.1,x.2.2.2.2)))))))))))))/\
 (¬(s.2.2.2.2.2=true)->
 (((s.2.1>(0:Int))->
 ((((0:Int)<=(ae (s.2.1- (1:Int))))/\ ((ae (s.2.1- (1:Int)))<(aq.2.1.length:Int)))/\
 (((Int.toNat (ae (s.2.1- (1:Int))))<(List.length aq.2.1))/\
 (((Int.toNat (ae (s.2.1- (1:Int))))<(List.length aq.2.1))/\
 ((((0:Int)<=(ae ((ae (s.2.2.1- (1:Int)))- (ae (y.1- s.2.1)))))/\ ((ae ((ae (s.2.2.1- (1:Int)))- (ae (y.1- s.2.1))))<(aq.2.1.length:Int)))/\
 (((Int.toNat (ae ((ae (s.2.2.1- (1:Int)))- (ae (y.1- s.2.1)))))<(List.length aq.2.1))/\
 (((Int.toNat (ae ((ae (s.2.2.1- (1:Int)))- (ae (y.1- s.2.1)))))<(List.length aq.2.1))/\
 ((bI (x.2.2.2.2,((List.getD aq.2.1 (Int.toNat (ae (s.2.1- (1:Int)))) (0:Int)),(List.getD aq.2.1 (Int.toNat (ae ((ae (s.2.2.1- (1:Int)))- (ae (y.1- s.2.1))))) (0:Int)))))/\
 az (jQ (x.2.2.2.2,((List.getD aq.2.1 (Int.toNat (ae (s.2.1- (1:Int)))) (0:Int)),(List.getD aq.2.1 (Int.toNat (ae ((ae (s.2.2.1- (1:Int)))- (ae (y.1- s.2.1))))) (0:Int))))) fun y_2=>
 ((((!(decide (y_2<(0:Int))))=true)->
 (b7 (aq.2.1,(s.2.1,(s.2.2.1,((ae ((ae (s.2.2.1- (1:Int)))- (ae (y.1- s.2.1)))),x.2.2.2.2))))))/\
 (¬((!(decide (y_2<(0:Int))))=true)->
 ((aU (aq.2.1,(s.2.1,(s.2.2.1,((ae ((ae (s.2.2.1- (1:Int)))- (ae (y.1- s.2.1)))),x.2.2.2.2)))))/\
 az (bn (aq.2.1,(s.2.1,(s.2.2.1,((ae ((ae (s.2.2.1- (1:Int)))- (ae (y.1- s.2.1)))),x.2.2.2.2))))) fun au=>
 ((((ae (au.1.1- s.2.1))<(ae (s.2.2.1- au.1.1)))->
 (aH (au.2.1,(s.2.1,(au.1.1,(s.2.2.2.1,x.2.2.2.2))))))/\
 (¬((ae (au.1.1- s.2.1))<(ae (s.2.2.1- au.1.1)))->
 (aH (au.2.1,((ae (au.1.1+(1:Int))),(s.2.2.1,(s.2.2.2.1,x.2.2.2.2))))))))))))))))))/\
 (¬(s.2.1>(0:Int))->
 ((aU (aq.2.1,(s.2.1,(s.2.2.1,((ae ((ae (s.2.2.1- (1:Int)))- (ae (y.1- s.2.1)))),x.2.2.2.2)))))/\
 az (bn (aq.2.1,(s.2.1,(s.2.2.1,((ae ((ae (s.2.2.1- (1:Int)))- (ae (y.1- s.2.1)))),x.2.2.2.2))))) fun y_2=>
 ((((ae (y_2.1.1- s.2.1))<(ae (s.2.2.1- y_2.1.1)))->
 (aH (y_2.2.1,(s.2.1,(y_2.1.1,(s.2.2.2.1,x.2.2.2.2))))))/\
 (¬((ae (y_2.1.1- s.2.1))<(ae (s.2.2.1- y_2.1.1)))->
 (aH (y_2.2.1,((ae (y_2.1.1+(1:Int))),(s.2.2.1,(s.2.2.2.1,x.2.2.2.2)))))))))))))/\
 (¬(s.2.2.2.2.1=true)->
 (((s.2.1>(0:Int))->
 ((((0:Int)<=(ae (s.2.1- (1:Int))))/\ ((ae (s.2.1- (1:Int)))<(aq.2.1.length:Int)))/\
 (((Int.toNat (ae (s.2.1- (1:Int))))<(List.length aq.2.1))/\
 (((Int.toNat (ae (s.2.1- (1:Int))))<(List.length aq.2.1))/\
 ((((0:Int)<=(ae ((ae (s.2.2.1- (1:Int)))- (ae (y.1- s.2.1)))))/\ ((ae ((ae (s.2.2.1- (1:Int)))- (ae (y.1- s.2.1))))<(aq.2.1.length:Int)))/\
 (((Int.toNat (ae ((ae (s.2.2.1- (1:Int)))- (ae (y.1- s.2.1)))))<(List.length aq.2.1))/\
 (((Int.toNat (ae ((ae (s.2.2.1- (1:Int)))- (ae (y.1- s.2.1)))))<(List.length aq.2.1))/\
 ((bI (x.2.2.2.2,((List.getD aq.2.1 (Int.toNat (ae (s.2.1- (1:Int)))) (0:Int)),(List.getD aq.2.1 (Int.toNat (ae ((ae (s.2.2.1- (1:Int)))- (ae (y.1- s.2.1))))) (0:Int)))))/\
 az (jQ (x.2.2.2.2,((List.getD aq.2.1 (Int.toNat (ae (s.2.1- (1:Int)))) (0:Int)),(List.getD aq.2.1 (Int.toNat (ae ((ae (s.2.2.1- (1:Int)))- (ae (y.1- s.2.1))))) (0:Int))))) fun y_2=>
 ((((!(decide (y_2<(0:Int))))=true)->
 (b7 (aq.2.1,(s.2.1,(s.2.2.1,((ae ((ae (s.2.2.1- (1:Int)))- (ae (y.1- s.2.1)))),x.2.2.2.2))))))/\
 (¬((!(decide (y_2<(0:Int))))=true)->
 ((aU (aq.2.1,(s.2.1,(s.2.2.1,((ae ((ae (s.2.2.1- (1:Int)))- (ae (y.1- s.2.1)))),x.2.2.2.2)))))/\
 az (bn (aq.2.1,(s.2.1,(s.2.2.1,((ae ((ae (s.2.2.1- (1:Int)))- (ae (y.1- s.2.1)))),x.2.2.2.2))))) fun au=>
 ((((ae (au.1.1- s.2.1))<(ae (s.2.2.1- au.1.1)))->
 (aH (au.2.1,(s.2.1,(au.1.1,(s.2.2.2.1,x.2.2.2.2))))))/\
 (¬((ae (au.1.1- s.2.1))<(ae (s.2.2.1- au.1.1)))->
 (aH (au.2.1,((ae (au.1.1+(1:Int))),(s.2.2.1,(s.2.2.2.1,x.2.2.2.2))))))))))))))))))/\
 (¬(s.2.1>(0:Int))->
 ((aU (aq.2.1,(s.2.1,(s.2.2.1,((ae ((ae (s.2.2.1- (1:Int)))- (ae (y.1- s.2.1)))),x.2.2.2.2)))))/\
 az (bn (aq.2.1,(s.2.1,(s.2.2.1,((ae ((ae (s.2.2.1- (1:Int)))- (ae (y.1- s.2.1)))),x.2.2.2.2))))) fun y_2=>
 ((((ae (y_2.1.1- s.2.1))<(ae (s.2.2.1- y_2.1.1)))->
 (aH (y_2.2.1,(s.2.1,(y_2.1.1,(s.2.2.2.1,x.2.2.2.2))))))/\
 (¬((ae (y_2.1.1- s.2.1))<(ae (s.2.2.1- y_2.1.1)))->
 (aH (y_2.2.1,((ae (y_2.1.1+(1:Int))),(s.2.2.1,(s.2.2.2.1,x.2.2.2.2))))))))))))))/\
 (¬((y.2==(2:Int))=true)->
 (((s.2.2.2.2.1=true)->
 (((s.2.2.2.2.2=true)->
 ((((y.2==(1:Int))=true)->
 ((jg (s.1,(s.2.1,(s.2.2.1,x.2.2.2.2))))/\
 az (lC (s.1,(s.2.1,(s.2.2.1,x.2.2.2.2)))) fun aq=>
 (¬(aq.1=true)->
 (((s.2.1>(0:Int))->
 ((((0:Int)<=(ae (s.2.1- (1:Int))))/\ ((ae (s.2.1- (1:Int)))<(aq.2.1.length:Int)))/\
 (((Int.toNat (ae (s.2.1- (1:Int))))<(List.length aq.2.1))/\
 (((Int.toNat (ae (s.2.1- (1:Int))))<(List.length aq.2.1))/\
 ((((0:Int)<=y.1)/\ (y.1<(aq.2.1.length:Int)))/\
 (((Int.toNat y.1)<(List.length aq.2.1))/\
 (((Int.toNat y.1)<(List.length aq.2.1))/\
 ((bI (x.2.2.2.2,((List.getD aq.2.1 (Int.toNat (ae (s.2.1- (1:Int)))) (0:Int)),(List.getD aq.2.1 (Int.toNat y.1) (0:Int)))))/\
 az (jQ (x.2.2.2.2,((List.getD aq.2.1 (Int.toNat (ae (s.2.1- (1:Int)))) (0:Int)),(List.getD aq.2.1 (Int.toNat y.1) (0:Int))))) fun y_2=>
 ((((!(decide (y_2<(0:Int))))=true)->
 (b7 (aq.2.1,(s.2.1,(s.2.2.1,(y.1,x.2.2.2.2))))))/\
 (¬((!(decide (y_2<(0:Int))))=true)->
 ((aU (aq.2.1,(s.2.1,(s.2.2.1,(y.1,x.2.2.2.2)))))/\
 az (bn (aq.2.1,(s.2.1,(s.2.2.1,(y.1,x.2.2.2.2))))) fun au=>
 ((((ae (au.1.1- s.2.1))<(ae (s.2.2.1- au.1.1)))->
 (aH (au.2.1,(s.2.1,(au.1.1,(s.2.2.2.1,x.2.2.2.2))))))/\
 (¬((ae (au.1.1- s.2.1))<(ae (s.2.2.1- au.1.1)))->
 (aH (au.2.1,((ae (au.1.1+(1:Int))),(s.2.2.1,(s.2.2.2.1,x.2.2.2.2))))))))))))))))))/\
 (¬(s.2.1>(0:Int))->
 ((aU (aq.2.1,(s.2.1,(s.2.2.1,(y.1,x.2.2.2.2)))))/\
 az (bn (aq.2.1,(s.2.1,(s.2.2.1,(y.1,x.2.2.2.2))))) fun y_2=>
 ((((ae (y_2.1.1- s.2.1))<(ae (s.2.2.1- y_2.1.1)))->
 (aH (y_2.2.1,(s.2.1,(y_2.1.1,(s.2.2.2.1,x.2.2.2.2))))))/\
 (¬((ae (y_2.1.1- s.2.1))<(ae (s.2.2.1- y_2.1.1)))->
 (aH (y_2.2.1,((ae (y_2.1.1+(1:Int))),(s.2.2.1,(s.2.2.2.1,x.2.2.2.2)))))))))))))/\
 (¬((y.2==(1:Int))=true)->
 (((s.2.1>(0:Int))->
 ((((0:Int)<=(ae (s.2.1- (1:Int))))/\ ((ae (s.2.1- (1:Int)))<(s.1.length:Int)))/\
 (((Int.toNat (ae (s.2.1- (1:Int))))<(List.length s.1))/\
 (((Int.toNat (ae (s.2.1- (1:Int))))<(List.length s.1))/\
 ((((0:Int)<=y.1)/\ (y.1<(s.1.length:Int)))/\
 (((Int.toNat y.1)<(List.length s.1))/\
 (((Int.toNat y.1)<(List.length s.1))/\
 ((bI (x.2.2.2.2,((List.getD s.1 (Int.toNat (ae (s.2.1- (1:Int)))) (0:Int)),(List.getD s.1 (Int.toNat y.1) (0:Int)))))/\
 az (jQ (x.2.2.2.2,((List.getD s.1 (Int.toNat (ae (s.2.1- (1:Int)))) (0:Int)),(List.getD s.1 (Int.toNat y.1) (0:Int))))) fun aq=>
 ((((!(decide (aq<(0:Int))))=true)->
 (b7 (s.1,(s.2.1,(s.2.2.1,(y.1,x.2.2.2.2))))))/\
 (¬((!(decide (aq<(0:Int))))=true)->
 ((aU (s.1,(s.2.1,(s.2.2.1,(y.1,x.2.2.2.2)))))/\
 az (bn (s.1,(s.2.1,(s.2.2.1,(y.1,x.2.2.2.2))))) fun y_2=>
 ((((ae (y_2.1.1- s.2.1))<(ae (s.2.2.1- y_2.1.1)))->
 (aH (y_2.2.1,(s.2.1,(y_2.1.1,(s.2.2.2.1,x.2.2.2.2))))))/\
 (¬((ae (y_2.1.1- s.2.1))<(ae (s.2.2.1- y_2.1.1)))->
 (aH (y_2.2.1,((ae (y_2.1.1+(1:Int))),(s.2.2.1,(s.2.2.2.1,x.2.2.2.2))))))))))))))))))/\
 (¬(s.2.1>(0:Int))->
 ((aU (s.1,(s.2.1,(s.2.2.1,(y.1,x.2.2.2.2)))))/\
 az (bn (s.1,(s.2.1,(s.2.2.1,(y.1,x.2.2.2.2))))) fun aq=>
 ((((ae (aq.1.1- s.2.1))<(ae (s.2.2.1- aq.1.1)))->
 (aH (aq.2.1,(s.2.1,(aq.1.1,(s.2.2.2.1,x.2.2.2.2))))))/\
 (¬((ae (aq.1.1- s.2.1))<(ae (s.2.2.1- aq.1.1)))->
 (aH (aq.2.1,((ae (aq.1.1+(1:Int))),(s.2.2.1,(s.2.2.2.1,x.2.2.2.2)))))))))))))/\
 (¬(s.2.2.2.2.2=true)->
 (((s.2.1>(0:Int))->
 ((((0:Int)<=(ae (s.2.1- (1:Int))))/\ ((ae (s.2.1- (1:Int)))<(s.1.length:Int)))/\
 (((Int.toNat (ae (s.2.1- (1:Int))))<(List.length s.1))/\
 (((Int.toNat (ae (s.2.1- (1:Int))))<(List.length s.1))/\
 ((((0:Int)<=y.1)/\ (y.1<(s.1.length:Int)))/\
 (((Int.toNat y.1)<(List.length s.1))/\
 (((Int.toNat y.1)<(List.length s.1))/\
 ((bI (x.2.2.2.2,((List.getD s.1 (Int.toNat (ae (s.2.1- (1:Int)))) (0:Int)),(List.getD s.1 (Int.toNat y.1) (0:Int)))))/\
 az (jQ (x.2.2.2.2,((List.getD s.1 (Int.toNat (ae (s.2.1- (1:Int)))) (0:Int)),(List.getD s.1 (Int.toNat y.1) (0:Int))))) fun aq=>
 ((((!(decide (aq<(0:Int))))=true)->
 (b7 (s.1,(s.2.1,(s.2.2.1,(y.1,x.2.2.2.2))))))/\
 (¬((!(decide (aq<(0:Int))))=true)->
 ((aU (s.1,(s.2.1,(s.2.2.1,(y.1,x.2.2.2.2)))))/\
 az (bn (s.1,(s.2.1,(s.2.2.1,(y.1,x.2.2.2.2))))) fun y_2=>
 ((((ae (y_2.1.1- s.2.1))<(ae (s.2.2.1- y_2.1.1)))->
 (aH (y_2.2.1,(s.2.1,(y_2.1.1,(s.2.2.2.1,x.2.2.2.2))))))/\
 (¬((ae (y_2.1.1- s.2.1))<(ae (s.2.2.1- y_2.1.1)))->
 (aH (y_2.2.1,((ae (y_2.1.1+(1:Int))),(s.2.2.1,(s.2.2.2.1,x.2.2.2.2))))))))))))))))))/\
 (¬(s.2.1>(0:Int))->
 ((aU (s.1,(s.2.1,(s.2.2.1,(y.1,x.2.2.2.2)))))/\
 az (bn (s.1,(s.2.1,(s.2.2.1,(y.1,x.2.2.2.2))))) fun aq=>
 ((((ae (aq.1.1- s.2.1))<(ae (s.2.2.1- aq.1.1)))->
 (aH (aq.2.1,(s.2.1,(aq.1.1,(s.2.2.2.1,x.2.2.2.2))))))/\
 (¬((ae (aq.1.1- s.2.1))<(ae (s.2.2.1- aq.1.1)))->
 (aH (aq.2.1,((ae (aq.1.1+(1:Int))),(s.2.2.1,(s.2.2.2.1,x.2.2.2.2)))))))))))))/\
 (¬(s.2.2.2.2.1=true)->
 (((s.2.1>(0:Int))->
 ((((0:Int)<=(ae (s.2.1- (1:Int))))/\ ((ae (s.2.1- (1:Int)))<(s.1.length:Int)))/\
 (((Int.toNat (ae (s.2.1- (1:Int))))<(List.length s.1))/\
 (((Int.toNat (ae (s.2.1- (1:Int))))<(List.length s.1))/\
 ((((0:Int)<=y.1)/\ (y.1<(s.1.length:Int)))/\
 (((Int.toNat y.1)<(List.length s.1))/\
 (((Int.toNat y.1)<(List.length s.1))/\
 ((bI (x.2.2.2.2,((List.getD s.1 (Int.toNat (ae (s.2.1- (1:Int)))) (0:Int)),(List.getD s.1 (Int.toNat y.1) (0:Int)))))/\
 az (jQ (x.2.2.2.2,((List.getD s.1 (Int.toNat (ae (s.2.1- (1:Int)))) (0:Int)),(List.getD s.1 (Int.toNat y.1) (0:Int))))) fun aq=>
 ((((!(decide (aq<(0:Int))))=true)->
 (b7 (s.1,(s.2.1,(s.2.2.1,(y.1,x.2.2.2.2))))))/\
 (¬((!(decide (aq<(0:Int))))=true)->
 ((aU (s.1,(s.2.1,(s.2.2.1,(y.1,x.2.2.2.2)))))/\
 az (bn (s.1,(s.2.1,(s.2.2.1,(y.1,x.2.2.2.2))))) fun y_2=>
 ((((ae (y_2.1.1- s.2.1))<(ae (s.2.2.1- y_2.1.1)))->
 (aH (y_2.2.1,(s.2.1,(y_2.1.1,(s.2.2.2.1,x.2.2.2.2))))))/\
 (¬((ae (y_2.1.1- s.2.1))<(ae (s.2.2.1- y_2.1.1)))->
 (aH (y_2.2.1,((ae (y_2.1.1+(1:Int))),(s.2.2.1,(s.2.2.2.1,x.2.2.2.2))))))))))))))))))/\
 (¬(s.2.1>(0:Int))->
 ((aU (s.1,(s.2.1,(s.2.2.1,(y.1,x.2.2.2.2)))))/\
 az (bn (s.1,(s.2.1,(s.2.2.1,(y.1,x.2.2.2.2))))) fun aq=>
 ((((ae (aq.1.1- s.2.1))<(ae (s.2.2.1- aq.1.1)))->
 (aH (aq.2.1,(s.2.1,(aq.1.1,(s.2.2.2.1,x.2.2.2.2))))))/\
 (¬((ae (aq.1.1- s.2.1))<(ae (s.2.2.1- aq.1.1)))->
 (aH (aq.2.1,((ae (aq.1.1+(1:Int))),(s.2.2.1,(s.2.2.2.1,x.2.2.2.2)))))))))))))))))))))
def rV (x:((List Int)×(Int×(Int×(Int×((List I9)×Int)))))) (s:((List Int)×(Int×(Int×(Int×(Bool×Bool)))))):Tr (((List Int)×(Int×(Int×(Int×(Bool×Bool)))))⊕(List Int)) true:=
 (.i11 ((ae (s.2.2.1- s.2.1))<=(12:Int))
 (.cz Gl (s.1,(s.2.1,(s.2.2.1,x.2.2.2.2))) fun y=>
 (.ret (.inr (y.2.1))))
 (.qq (s.2.2.2.1==z0)
 (.cz z6 (s.1,(s.2.1,(s.2.2.1,x.2.2.2.2))) fun y=>
 (.ret (.inr (y.2.1))))
 (.qq (!s.2.2.2.2.1)
 (.cz FT (s.1,(s.2.1,(s.2.2.1,x.2.2.2.2))) fun y=>
 (.fn Ca (y.2.1,(s.2.1,(s.2.2.1,x.2.2.2.2))) fun aq=>
 (.qq (aq.2==(2:Int))
 (.cz Ci (y.2.1,(s.2.1,(s.2.2.1,x.2.2.2.2))) fun y_2=>
 (.qq s.2.2.2.2.1
 (.qq s.2.2.2.2.2
 (.cz pX (y_2.2.1,(s.2.1,(s.2.2.1,x.2.2.2.2))) fun au=>
 (.nY au.1
 (.ret (.inr (au.2.1)))
 (.i11 (s.2.1>z0)
 (.bO (wm s.2.1) au.2.1
 (.bO (ae ((wm s.2.2.1)- (ae (aq.1- s.2.1)))) au.2.1
 (.fn dy (x.2.2.2.2,((gI au.2.1 (wm s.2.1)),(gI au.2.1 (ae ((wm s.2.2.1)- (ae (aq.1- s.2.1))))))) fun aG=>
 (.qq (!(decide (aG<z0)))
 (.cz de (au.2.1,(s.2.1,(s.2.2.1,((ae ((wm s.2.2.1)- (ae (aq.1- s.2.1)))),x.2.2.2.2)))) fun cu=>
 (.ret (.inl (cu.2.1,(cu.1,(s.2.2.1,((wm s.2.2.2.1),(s.2.2.2.2.1,s.2.2.2.2.2))))))))
 (.cz bV (au.2.1,(s.2.1,(s.2.2.1,((ae ((wm s.2.2.1)- (ae (aq.1- s.2.1)))),x.2.2.2.2)))) fun cu=>
 (.i11 ((ae (cu.1.1- s.2.1))<(ae (s.2.2.1- cu.1.1)))
 (.cz aV (cu.2.1,(s.2.1,(cu.1.1,((wm s.2.2.2.1),x.2.2.2.2)))) fun qD=>
 (.ret (.inl (qD.2.1,((w1 cu.1.1),(s.2.2.1,((wm s.2.2.2.1),((decide ((ae (cu.1.1- s.2.1))>=(ae (Int.tdiv (ae (s.2.2.1- s.2.1)) (8:Int))))),cu.1.2))))))))
 (.cz aV (cu.2.1,((w1 cu.1.1),(s.2.2.1,((wm s.2.2.2.1),x.2.2.2.2)))) fun qD=>
 (.ret (.inl (qD.2.1,(s.2.1,(cu.1.1,((wm s.2.2.2.1),((decide ((ae (s.2.2.1- cu.1.1))>=(ae (Int.tdiv (ae (s.2.2.1- s.2.1)) (8:Int))))),cu.1.2))))))))))))))
 (.cz bV (au.2.1,(s.2.1,(s.2.2.1,((ae ((wm s.2.2.1)- (ae (aq.1- s.2.1)))),x.2.2.2.2)))) fun aG=>
 (.i11 ((ae (aG.1.1- s.2.1))<(ae (s.2.2.1- aG.1.1)))
 (.cz aV (aG.2.1,(s.2.1,(aG.1.1,((wm s.2.2.2.1),x.2.2.2.2)))) fun cu=>
 (.ret (.inl (cu.2.1,((w1 aG.1.1),(s.2.2.1,((wm s.2.2.2.1),((decide ((ae (aG.1.1- s.2.1))>=(ae (Int.tdiv (ae (s.2.2.1- s.2.1)) (8:Int))))),aG.1.2))))))))
 (.cz aV (aG.2.1,((w1 aG.1.1),(s.2.2.1,((wm s.2.2.2.1),x.2.2.2.2)))) fun cu=>
 (.ret (.inl (cu.2.1,(s.2.1,(aG.1.1,((wm s.2.2.2.1),((decide ((ae (s.2.2.1- aG.1.1))>=(ae (Int.tdiv (ae (s.2.2.1- s.2.1)) (8:Int))))),aG.1.2)))))))))))))
 (.i11 (s.2.1>z0)
 (.bO (wm s.2.1) y_2.2.1
 (.bO (ae ((wm s.2.2.1)- (ae (aq.1- s.2.1)))) y_2.2.1
 (.fn dy (x.2.2.2.2,((gI y_2.2.1 (wm s.2.1)),(gI y_2.2.1 (ae ((wm s.2.2.1)- (ae (aq.1- s.2.1))))))) fun au=>
 (.qq (!(decide (au<z0)))
 (.cz de (y_2.2.1,(s.2.1,(s.2.2.1,((ae ((wm s.2.2.1)- (ae (aq.1- s.2.1)))),x.2.2.2.2)))) fun aG=>
 (.ret (.inl (aG.2.1,(aG.1,(s.2.2.1,((wm s.2.2.2.1),(s.2.2.2.2.1,s.2.2.2.2.2))))))))
 (.cz bV (y_2.2.1,(s.2.1,(s.2.2.1,((ae ((wm s.2.2.1)- (ae (aq.1- s.2.1)))),x.2.2.2.2)))) fun aG=>
 (.i11 ((ae (aG.1.1- s.2.1))<(ae (s.2.2.1- aG.1.1)))
 (.cz aV (aG.2.1,(s.2.1,(aG.1.1,((wm s.2.2.2.1),x.2.2.2.2)))) fun cu=>
 (.ret (.inl (cu.2.1,((w1 aG.1.1),(s.2.2.1,((wm s.2.2.2.1),((decide ((ae (aG.1.1- s.2.1))>=(ae (Int.tdiv (ae (s.2.2.1- s.2.1)) (8:Int))))),aG.1.2))))))))
 (.cz aV (aG.2.1,((w1 aG.1.1),(s.2.2.1,((wm s.2.2.2.1),x.2.2.2.2)))) fun cu=>
 (.ret (.inl (cu.2.1,(s.2.1,(aG.1.1,((wm s.2.2.2.1),((decide ((ae (s.2.2.1- aG.1.1))>=(ae (Int.tdiv (ae (s.2.2.1- s.2.1)) (8:Int))))),aG.1.2))))))))))))))
 (.cz bV (y_2.2.1,(s.2.1,(s.2.2.1,((ae ((wm s.2.2.1)- (ae (aq.1- s.2.1)))),x.2.2.2.2)))) fun au=>
 (.i11 ((ae (au.1.1- s.2.1))<(ae (s.2.2.1- au.1.1)))
 (.cz aV (au.2.1,(s.2.1,(au.1.1,((wm s.2.2.2.1),x.2.2.2.2)))) fun aG=>
 (.ret (.inl (aG.2.1,((w1 au.1.1),(s.2.2.1,((wm s.2.2.2.1),((decide ((ae (au.1.1- s.2.1))>=(ae (Int.tdiv (ae (s.2.2.1- s.2.1)) (8:Int))))),au.1.2))))))))
 (.cz aV (au.2.1,((w1 au.1.1),(s.2.2.1,((wm s.2.2.2.1),x.2.2.2.2)))) fun aG=>
 (.ret (.inl (aG.2.1,(s.2.1,(au.1.1,((wm s.2.2.2.1),((decide ((ae (s.2.2.1- au.1.1))>=(ae (Int.tdiv (ae (s.2.2.1- s.2.1)) (8:Int))))),au.1.2))))))))))))
 (.i11 (s.2.1>z0)
 (.bO (wm s.2.1) y_2.2.1
 (.bO (ae ((wm s.2.2.1)- (ae (aq.1- s.2.1)))) y_2.2.1
 (.fn dy (x.2.2.2.2,((gI y_2.2.1 (wm s.2.1)),(gI y_2.2.1 (ae ((wm s.2.2.1)- (ae (aq.1- s.2.1))))))) fun au=>
 (.qq (!(decide (au<z0)))
 (.cz de (y_2.2.1,(s.2.1,(s.2.2.1,((ae ((wm s.2.2.1)- (ae (aq.1- s.2.1)))),x.2.2.2.2)))) fun aG=>
 (.ret (.inl (aG.2.1,(aG.1,(s.2.2.1,((wm s.2.2.2.1),(s.2.2.2.2.1,s.2.2.2.2.2))))))))
 (.cz bV (y_2.2.1,(s.2.1,(s.2.2.1,((ae ((wm s.2.2.1)- (ae (aq.1- s.2.1)))),x.2.2.2.2)))) fun aG=>
 (.i11 ((ae (aG.1.1- s.2.1))<(ae (s.2.2.1- aG.1.1)))
 (.cz aV (aG.2.1,(s.2.1,(aG.1.1,((wm s.2.2.2.1),x.2.2.2.2)))) fun cu=>
 (.ret (.inl (cu.2.1,((w1 aG.1.1),(s.2.2.1,((wm s.2.2.2.1),((decide ((ae (aG.1.1- s.2.1))>=(ae (Int.tdiv (ae (s.2.2.1- s.2.1)) (8:Int))))),aG.1.2))))))))
 (.cz aV (aG.2.1,((w1 aG.1.1),(s.2.2.1,((wm s.2.2.2.1),x.2.2.2.2)))) fun cu=>
 (.ret (.inl (cu.2.1,(s.2.1,(aG.1.1,((wm s.2.2.2.1),((decide ((ae (s.2.2.1- aG.1.1))>=(ae (Int.tdiv (ae (s.2.2.1- s.2.1)) (8:Int))))),aG.1.2))))))))))))))
 (.cz bV (y_2.2.1,(s.2.1,(s.2.2.1,((ae ((wm s.2.2.1)- (ae (aq.1- s.2.1)))),x.2.2.2.2)))) fun au=>
 (.i11 ((ae (au.1.1- s.2.1))<(ae (s.2.2.1- au.1.1)))
 (.cz aV (au.2.1,(s.2.1,(au.1.1,((wm s.2.2.2.1),x.2.2.2.2)))) fun aG=>
 (.ret (.inl (aG.2.1,((w1 au.1.1),(s.2.2.1,((wm s.2.2.2.1),((decide ((ae (au.1.1- s.2.1))>=(ae (Int.tdiv (ae (s.2.2.1- s.2.1)) (8:Int))))),au.1.2))))))))
 (.cz aV (au.2.1,((w1 au.1.1),(s.2.2.1,((wm s.2.2.2.1),x.2.2.2.2)))) fun aG=>
 (.ret (.inl (aG.2.1,(s.2.1,(au.1.1,((wm s.2.2.2.1),((decide ((ae (s.2.2.1- au.1.1))>=(ae (Int.tdiv (ae (s.2.2.1- s.2.1)) (8:Int))))),au.1.2)))))))))))))
 (.qq s.2.2.2.2.1
 (.qq s.2.2.2.2.2
 (.qq (aq.2==z1)
 (.cz pX (y.2.1,(s.2.1,(s.2.2.1,x.2.2.2.2))) fun y_2=>
 (.nY y_2.1
 (.ret (.inr (y_2.2.1)))
 (.i11 (s.2.1>z0)
 (.bO (wm s.2.1) y_2.2.1
 (.bO aq.1 y_2.2.1
 (.fn dy (x.2.2.2.2,((gI y_2.2.1 (wm s.2.1)),(gI y_2.2.1 aq.1))) fun au=>
 (.qq (!(decide (au<z0)))
 (.cz de (y_2.2.1,(s.2.1,(s.2.2.1,(aq.1,x.2.2.2.2)))) fun aG=>
 (.ret (.inl (aG.2.1,(aG.1,(s.2.2.1,((wm s.2.2.2.1),(s.2.2.2.2.1,s.2.2.2.2.2))))))))
 (.cz bV (y_2.2.1,(s.2.1,(s.2.2.1,(aq.1,x.2.2.2.2)))) fun aG=>
 (.i11 ((ae (aG.1.1- s.2.1))<(ae (s.2.2.1- aG.1.1)))
 (.cz aV (aG.2.1,(s.2.1,(aG.1.1,((wm s.2.2.2.1),x.2.2.2.2)))) fun cu=>
 (.ret (.inl (cu.2.1,((w1 aG.1.1),(s.2.2.1,((wm s.2.2.2.1),((decide ((ae (aG.1.1- s.2.1))>=(ae (Int.tdiv (ae (s.2.2.1- s.2.1)) (8:Int))))),aG.1.2))))))))
 (.cz aV (aG.2.1,((w1 aG.1.1),(s.2.2.1,((wm s.2.2.2.1),x.2.2.2.2)))) fun cu=>
 (.ret (.inl (cu.2.1,(s.2.1,(aG.1.1,((wm s.2.2.2.1),((decide ((ae (s.2.2.1- aG.1.1))>=(ae (Int.tdiv (ae (s.2.2.1- s.2.1)) (8:Int))))),aG.1.2))))))))))))))
 (.cz bV (y_2.2.1,(s.2.1,(s.2.2.1,(aq.1,x.2.2.2.2)))) fun au=>
 (.i11 ((ae (au.1.1- s.2.1))<(ae (s.2.2.1- au.1.1)))
 (.cz aV (au.2.1,(s.2.1,(au.1.1,((wm s.2.2.2.1),x.2.2.2.2)))) fun aG=>
 (.ret (.inl (aG.2.1,((w1 au.1.1),(s.2.2.1,((wm s.2.2.2.1),((decide ((ae (au.1.1- s.2.1))>=(ae (Int.tdiv (ae (s.2.2.1- s.2.1)) (8:Int))))),au.1.2))))))))
 (.cz aV (au.2.1,((w1 au.1.1),(s.2.2.1,((wm s.2.2.2.1),x.2.2.2.2)))) fun aG=>
 (.ret (.inl (aG.2.1,(s.2.1,(au.1.1,((wm s.2.2.2.1),((decide ((ae (s.2.2.1- au.1.1))>=(ae (Int.tdiv (ae (s.2.2.1- s.2.1)) (8:Int))))),au.1.2)))))))))))))
 (.i11 (s.2.1>z0)
 (.bO (wm s.2.1) y.2.1
 (.bO aq.1 y.2.1
 (.fn dy (x.2.2.2.2,((gI y.2.1 (wm s.2.1)),(gI y.2.1 aq.1))) fun y_2=>
 (.qq (!(decide (y_2<z0)))
 (.cz de (y.2.1,(s.2.1,(s.2.2.1,(aq.1,x.2.2.2.2)))) fun au=>
 (.ret (.inl (au.2.1,(au.1,(s.2.2.1,((wm s.2.2.2.1),(s.2.2.2.2.1,s.2.2.2.2.2))))))))
 (.cz bV (y.2.1,(s.2.1,(s.2.2.1,(aq.1,x.2.2.2.2)))) fun au=>
 (.i11 ((ae (au.1.1- s.2.1))<(ae (s.2.2.1- au.1.1)))
 (.cz aV (au.2.1,(s.2.1,(au.1.1,((wm s.2.2.2.1),x.2.2.2.2)))) fun aG=>
 (.ret (.inl (aG.2.1,((w1 au.1.1),(s.2.2.1,((wm s.2.2.2.1),((decide ((ae (au.1.1- s.2.1))>=(ae (Int.tdiv (ae (s.2.2.1- s.2.1)) (8:Int))))),au.1.2))))))))
 (.cz aV (au.2.1,((w1 au.1.1),(s.2.2.1,((wm s.2.2.2.1),x.2.2.2.2)))) fun aG=>
 (.ret (.inl (aG.2.1,(s.2.1,(au.1.1,((wm s.2.2.2.1),((decide ((ae (s.2.2.1- au.1.1))>=(ae (Int.tdiv (ae (s.2.2.1- s.2.1)) (8:Int))))),au.1.2))))))))))))))
 (.cz bV (y.2.1,(s.2.1,(s.2.2.1,(aq.1,x.2.2.2.2)))) fun y_2=>
 (.i11 ((ae (y_2.1.1- s.2.1))<(ae (s.2.2.1- y_2.1.1)))
 (.cz aV (y_2.2.1,(s.2.1,(y_2.1.1,((wm s.2.2.2.1),x.2.2.2.2)))) fun au=>
 (.ret (.inl (au.2.1,((w1 y_2.1.1),(s.2.2.1,((wm s.2.2.2.1),((decide ((ae (y_2.1.1- s.2.1))>=(ae (Int.tdiv (ae (s.2.2.1- s.2.1)) (8:Int))))),y_2.1.2))))))))
 (.cz aV (y_2.2.1,((w1 y_2.1.1),(s.2.2.1,((wm s.2.2.2.1),x.2.2.2.2)))) fun au=>
 (.ret (.inl (au.2.1,(s.2.1,(y_2.1.1,((wm s.2.2.2.1),((decide ((ae (s.2.2.1- y_2.1.1))>=(ae (Int.tdiv (ae (s.2.2.1- s.2.1)) (8:Int))))),y_2.1.2))))))))))))
 (.i11 (s.2.1>z0)
 (.bO (wm s.2.1) y.2.1
 (.bO aq.1 y.2.1
 (.fn dy (x.2.2.2.2,((gI y.2.1 (wm s.2.1)),(gI y.2.1 aq.1))) fun y_2=>
 (.qq (!(decide (y_2<z0)))
 (.cz de (y.2.1,(s.2.1,(s.2.2.1,(aq.1,x.2.2.2.2)))) fun au=>
 (.ret (.inl (au.2.1,(au.1,(s.2.2.1,((wm s.2.2.2.1),(s.2.2.2.2.1,s.2.2.2.2.2))))))))
 (.cz bV (y.2.1,(s.2.1,(s.2.2.1,(aq.1,x.2.2.2.2)))) fun au=>
 (.i11 ((ae (au.1.1- s.2.1))<(ae (s.2.2.1- au.1.1)))
 (.cz aV (au.2.1,(s.2.1,(au.1.1,((wm s.2.2.2.1),x.2.2.2.2)))) fun aG=>
 (.ret (.inl (aG.2.1,((w1 au.1.1),(s.2.2.1,((wm s.2.2.2.1),((decide ((ae (au.1.1- s.2.1))>=(ae (Int.tdiv (ae (s.2.2.1- s.2.1)) (8:Int))))),au.1.2))))))))
 (.cz aV (au.2.1,((w1 au.1.1),(s.2.2.1,((wm s.2.2.2.1),x.2.2.2.2)))) fun aG=>
 (.ret (.inl (aG.2.1,(s.2.1,(au.1.1,((wm s.2.2.2.1),((decide ((ae (s.2.2.1- au.1.1))>=(ae (Int.tdiv (ae (s.2.2.1- s.2.1)) (8:Int))))),au.1.2))))))))))))))
 (.cz bV (y.2.1,(s.2.1,(s.2.2.1,(aq.1,x.2.2.2.2)))) fun y_2=>
 (.i11 ((ae (y_2.1.1- s.2.1))<(ae (s.2.2.1- y_2.1.1)))
 (.cz aV (y_2.2.1,(s.2.1,(y_2.1.1,((wm s.2.2.2.1),x.2.2.2.2)))) fun au=>
 (.ret (.inl (au.2.1,((w1 y_2.1.1),(s.2.2.1,((wm s.2.2.2.1),((decide ((ae (y_2.1.1- s.2.1))>=(ae (Int.tdiv (ae (s.2.2.1- s.2.1)) (8:Int))))),y_2.1.2))))))))
 (.cz aV (y_2.2.1,((w1 y_2.1.1),(s.2.2.1,((wm s.2.2.2.1),x.2.2.2.2)))) fun au=>
 (.ret (.inl (au.2.1,(s.2.1,(y_2.1.1,((wm s.2.2.2.1),((decide ((ae (s.2.2.1- y_2.1.1))>=(ae (Int.tdiv (ae (s.2.2.1- s.2.1)) (8:Int))))),y_2.1.2))))))))))))
 (.i11 (s.2.1>z0)
 (.bO (wm s.2.1) y.2.1
 (.bO aq.1 y.2.1
 (.fn dy (x.2.2.2.2,((gI y.2.1 (wm s.2.1)),(gI y.2.1 aq.1))) fun y_2=>
 (.qq (!(decide (y_2<z0)))
 (.cz de (y.2.1,(s.2.1,(s.2.2.1,(aq.1,x.2.2.2.2)))) fun au=>
 (.ret (.inl (au.2.1,(au.1,(s.2.2.1,((wm s.2.2.2.1),(s.2.2.2.2.1,s.2.2.2.2.2))))))))
 (.cz bV (y.2.1,(s.2.1,(s.2.2.1,(aq.1,x.2.2.2.2)))) fun au=>
 (.i11 ((ae (au.1.1- s.2.1))<(ae (s.2.2.1- au.1.1)))
 (.cz aV (au.2.1,(s.2.1,(au.1.1,((wm s.2.2.2.1),x.2.2.2.2)))) fun aG=>
 (.ret (.inl (aG.2.1,((w1 au.1.1),(s.2.2.1,((wm s.2.2.2.1),((decide ((ae (au.1.1- s.2.1))>=(ae (Int.tdiv (ae (s.2.2.1- s.2.1)) (8:Int))))),au.1.2))))))))
 (.cz aV (au.2.1,((w1 au.1.1),(s.2.2.1,((wm s.2.2.2.1),x.2.2.2.2)))) fun aG=>
 (.ret (.inl (aG.2.1,(s.2.1,(au.1.1,((wm s.2.2.2.1),((decide ((ae (s.2.2.1- au.1.1))>=(ae (Int.tdiv (ae (s.2.2.1- s.2.1)) (8:Int))))),au.1.2))))))))))))))
 (.cz bV (y.2.1,(s.2.1,(s.2.2.1,(aq.1,x.2.2.2.2)))) fun y_2=>
 (.i11 ((ae (y_2.1.1- s.2.1))<(ae (s.2.2.1- y_2.1.1)))
 (.cz aV (y_2.2.1,(s.2.1,(y_2.1.1,((wm s.2.2.2.1),x.2.2.2.2)))) fun au=>
 (.ret (.inl (au.2.1,((w1 y_2.1.1),(s.2.2.1,((wm s.2.2.2.1),((decide ((ae (y_2.1.1- s.2.1))>=(ae (Int.tdiv (ae (s.2.2.1- s.2.1)) (8:Int))))),y_2.1.2))))))))
 (.cz aV (y_2.2.1,((w1 y_2.1.1),(s.2.2.1,((wm s.2.2.2.1),x.2.2.2.2)))) fun au=>
 (.ret (.inl (au.2.1,(s.2.1,(y_2.1.1,((wm s.2.2.2.1),((decide ((ae (s.2.2.1- y_2.1.1))>=(ae (Int.tdiv (ae (s.2.2.1- s.2.1)) (8:Int))))),y_2.1.2)))))))))))))))
 (.fn Ca (s.1,(s.2.1,(s.2.2.1,x.2.2.2.2))) fun y=>
 (.qq (y.2==(2:Int))
 (.cz Ci (s.1,(s.2.1,(s.2.2.1,x.2.2.2.2))) fun aq=>
 (.qq s.2.2.2.2.1
 (.qq s.2.2.2.2.2
 (.cz pX (aq.2.1,(s.2.1,(s.2.2.1,x.2.2.2.2))) fun y_2=>
 (.nY y_2.1
 (.ret (.inr (y_2.2.1)))
 (.i11 (s.2.1>z0)
 (.bO (wm s.2.1) y_2.2.1
 (.bO (ae ((wm s.2.2.1)- (ae (y.1- s.2.1)))) y_2.2.1
 (.fn dy (x.2.2.2.2,((gI y_2.2.1 (wm s.2.1)),(gI y_2.2.1 (ae ((wm s.2.2.1)- (ae (y.1- s.2.1))))))) fun au=>
 (.qq (!(decide (au<z0)))
 (.cz de (y_2.2.1,(s.2.1,(s.2.2.1,((ae ((wm s.2.2.1)- (ae (y.1- s.2.1)))),x.2.2.2.2)))) fun aG=>
 (.ret (.inl (aG.2.1,(aG.1,(s.2.2.1,(s.2.2.2.1,(s.2.2.2.2.1,s.2.2.2.2.2))))))))
 (.cz bV (y_2.2.1,(s.2.1,(s.2.2.1,((ae ((wm s.2.2.1)- (ae (y.1- s.2.1)))),x.2.2.2.2)))) fun aG=>
 (.i11 ((ae (aG.1.1- s.2.1))<(ae (s.2.2.1- aG.1.1)))
 (.cz aV (aG.2.1,(s.2.1,(aG.1.1,(s.2.2.2.1,x.2.2.2.2)))) fun cu=>
 (.ret (.inl (cu.2.1,((w1 aG.1.1),(s.2.2.1,(s.2.2.2.1,((decide ((ae (aG.1.1- s.2.1))>=(ae (Int.tdiv (ae (s.2.2.1- s.2.1)) (8:Int))))),aG.1.2))))))))
 (.cz aV (aG.2.1,((w1 aG.1.1),(s.2.2.1,(s.2.2.2.1,x.2.2.2.2)))) fun cu=>
 (.ret (.inl (cu.2.1,(s.2.1,(aG.1.1,(s.2.2.2.1,((decide ((ae (s.2.2.1- aG.1.1))>=(ae (Int.tdiv (ae (s.2.2.1- s.2.1)) (8:Int))))),aG.1.2))))))))))))))
 (.cz bV (y_2.2.1,(s.2.1,(s.2.2.1,((ae ((wm s.2.2.1)- (ae (y.1- s.2.1)))),x.2.2.2.2)))) fun au=>
 (.i11 ((ae (au.1.1- s.2.1))<(ae (s.2.2.1- au.1.1)))
 (.cz aV (au.2.1,(s.2.1,(au.1.1,(s.2.2.2.1,x.2.2.2.2)))) fun aG=>
 (.ret (.inl (aG.2.1,((w1 au.1.1),(s.2.2.1,(s.2.2.2.1,((decide ((ae (au.1.1- s.2.1))>=(ae (Int.tdiv (ae (s.2.2.1- s.2.1)) (8:Int))))),au.1.2))))))))
 (.cz aV (au.2.1,((w1 au.1.1),(s.2.2.1,(s.2.2.2.1,x.2.2.2.2)))) fun aG=>
 (.ret (.inl (aG.2.1,(s.2.1,(au.1.1,(s.2.2.2.1,((decide ((ae (s.2.2.1- au.1.1))>=(ae (Int.tdiv (ae (s.2.2.1- s.2.1)) (8:Int))))),au.1.2)))))))))))))
 (.i11 (s.2.1>z0)
 (.bO (wm s.2.1) aq.2.1
 (.bO (ae ((wm s.2.2.1)- (ae (y.1- s.2.1)))) aq.2.1
 (.fn dy (x.2.2.2.2,((gI aq.2.1 (wm s.2.1)),(gI aq.2.1 (ae ((wm s.2.2.1)- (ae (y.1- s.2.1))))))) fun y_2=>
 (.qq (!(decide (y_2<z0)))
 (.cz de (aq.2.1,(s.2.1,(s.2.2.1,((ae ((wm s.2.2.1)- (ae (y.1- s.2.1)))),x.2.2.2.2)))) fun au=>
 (.ret (.inl (au.2.1,(au.1,(s.2.2.1,(s.2.2.2.1,(s.2.2.2.2.1,s.2.2.2.2.2))))))))
 (.cz bV (aq.2.1,(s.2.1,(s.2.2.1,((ae ((wm s.2.2.1)- (ae (y.1- s.2.1)))),x.2.2.2.2)))) fun au=>
 (.i11 ((ae (au.1.1- s.2.1))<(ae (s.2.2.1- au.1.1)))
 (.cz aV (au.2.1,(s.2.1,(au.1.1,(s.2.2.2.1,x.2.2.2.2)))) fun aG=>
 (.ret (.inl (aG.2.1,((w1 au.1.1),(s.2.2.1,(s.2.2.2.1,((decide ((ae (au.1.1- s.2.1))>=(ae (Int.tdiv (ae (s.2.2.1- s.2.1)) (8:Int))))),au.1.2))))))))
 (.cz aV (au.2.1,((w1 au.1.1),(s.2.2.1,(s.2.2.2.1,x.2.2.2.2)))) fun aG=>
 (.ret (.inl (aG.2.1,(s.2.1,(au.1.1,(s.2.2.2.1,((decide ((ae (s.2.2.1- au.1.1))>=(ae (Int.tdiv (ae (s.2.2.1- s.2.1)) (8:Int))))),au.1.2))))))))))))))
 (.cz bV (aq.2.1,(s.2.1,(s.2.2.1,((ae ((wm s.2.2.1)- (ae (y.1- s.2.1)))),x.2.2.2.2)))) fun y_2=>
 (.i11 ((ae (y_2.1.1- s.2.1))<(ae (s.2.2.1- y_2.1.1)))
 (.cz aV (y_2.2.1,(s.2.1,(y_2.1.1,(s.2.2.2.1,x.2.2.2.2)))) fun au=>
 (.ret (.inl (au.2.1,((w1 y_2.1.1),(s.2.2.1,(s.2.2.2.1,((decide ((ae (y_2.1.1- s.2.1))>=(ae (Int.tdiv (ae (s.2.2.1- s.2.1)) (8:Int))))),y_2.1.2))))))))
 (.cz aV (y_2.2.1,((w1 y_2.1.1),(s.2.2.1,(s.2.2.2.1,x.2.2.2.2)))) fun au=>
 (.ret (.inl (au.2.1,(s.2.1,(y_2.1.1,(s.2.2.2.1,((decide ((ae (s.2.2.1- y_2.1.1))>=(ae (Int.tdiv (ae (s.2.2.1- s.2.1)) (8:Int))))),y_2.1.2))))))))))))
 (.i11 (s.2.1>z0)
 (.bO (wm s.2.1) aq.2.1
 (.bO (ae ((wm s.2.2.1)- (ae (y.1- s.2.1)))) aq.2.1
 (.fn dy (x.2.2.2.2,((gI aq.2.1 (wm s.2.1)),(gI aq.2.1 (ae ((wm s.2.2.1)- (ae (y.1- s.2.1))))))) fun y_2=>
 (.qq (!(decide (y_2<z0)))
 (.cz de (aq.2.1,(s.2.1,(s.2.2.1,((ae ((wm s.2.2.1)- (ae (y.1- s.2.1)))),x.2.2.2.2)))) fun au=>
 (.ret (.inl (au.2.1,(au.1,(s.2.2.1,(s.2.2.2.1,(s.2.2.2.2.1,s.2.2.2.2.2))))))))
 (.cz bV (aq.2.1,(s.2.1,(s.2.2.1,((ae ((wm s.2.2.1)- (ae (y.1- s.2.1)))),x.2.2.2.2)))) fun au=>
 (.i11 ((ae (au.1.1- s.2.1))<(ae (s.2.2.1- au.1.1)))
 (.cz aV (au.2.1,(s.2.1,(au.1.1,(s.2.2.2.1,x.2.2.2.2)))) fun aG=>
 (.ret (.inl (aG.2.1,((w1 au.1.1),(s.2.2.1,(s.2.2.2.1,((decide ((ae (au.1.1- s.2.1))>=(ae (Int.tdiv (ae (s.2.2.1- s.2.1)) (8:Int))))),au.1.2))))))))
 (.cz aV (au.2.1,((w1 au.1.1),(s.2.2.1,(s.2.2.2.1,x.2.2.2.2)))) fun aG=>
 (.ret (.inl (aG.2.1,(s.2.1,(au.1.1,(s.2.2.2.1,((decide ((ae (s.2.2.1- au.1.1))>=(ae (Int.tdiv (ae (s.2.2.1- s.2.1)) (8:Int))))),au.1.2))))))))))))))
 (.cz bV (aq.2.1,(s.2.1,(s.2.2.1,((ae ((wm s.2.2.1)- (ae (y.1- s.2.1)))),x.2.2.2.2)))) fun y_2=>
 (.i11 ((ae (y_2.1.1- s.2.1))<(ae (s.2.2.1- y_2.1.1)))
 (.cz aV (y_2.2.1,(s.2.1,(y_2.1.1,(s.2.2.2.1,x.2.2.2.2)))) fun au=>
 (.ret (.inl (au.2.1,((w1 y_2.1.1),(s.2.2.1,(s.2.2.2.1,((decide ((ae (y_2.1.1- s.2.1))>=(ae (Int.tdiv (ae (s.2.2.1- s.2.1)) (8:Int))))),y_2.1.2))))))))
 (.cz aV (y_2.2.1,((w1 y_2.1.1),(s.2.2.1,(s.2.2.2.1,x.2.2.2.2)))) fun au=>
 (.ret (.inl (au.2.1,(s.2.1,(y_2.1.1,(s.2.2.2.1,((decide ((ae (s.2.2.1- y_2.1.1))>=(ae (Int.tdiv (ae (s.2.2.1- s.2.1)) (8:Int))))),y_2.1.2)))))))))))))
 (.qq s.2.2.2.2.1
 (.qq s.2.2.2.2.2
 (.qq (y.2==z1)
 (.cz pX (s.1,(s.2.1,(s.2.2.1,x.2.2.2.2))) fun aq=>
 (.nY aq.1
 (.ret (.inr (aq.2.1)))
 (.i11 (s.2.1>z0)
 (.bO (wm s.2.1) aq.2.1
 (.bO y.1 aq.2.1
 (.fn dy (x.2.2.2.2,((gI aq.2.1 (wm s.2.1)),(gI aq.2.1 y.1))) fun y_2=>
 (.qq (!(decide (y_2<z0)))
 (.cz de (aq.2.1,(s.2.1,(s.2.2.1,(y.1,x.2.2.2.2)))) fun au=>
 (.ret (.inl (au.2.1,(au.1,(s.2.2.1,(s.2.2.2.1,(s.2.2.2.2.1,s.2.2.2.2.2))))))))
 (.cz bV (aq.2.1,(s.2.1,(s.2.2.1,(y.1,x.2.2.2.2)))) fun au=>
 (.i11 ((ae (au.1.1- s.2.1))<(ae (s.2.2.1- au.1.1)))
 (.cz aV (au.2.1,(s.2.1,(au.1.1,(s.2.2.2.1,x.2.2.2.2)))) fun aG=>
 (.ret (.inl (aG.2.1,((w1 au.1.1),(s.2.2.1,(s.2.2.2.1,((decide ((ae (au.1.1- s.2.1))>=(ae (Int.tdiv (ae (s.2.2.1- s.2.1)) (8:Int))))),au.1.2))))))))
 (.cz aV (au.2.1,((w1 au.1.1),(s.2.2.1,(s.2.2.2.1,x.2.2.2.2)))) fun aG=>
 (.ret (.inl (aG.2.1,(s.2.1,(au.1.1,(s.2.2.2.1,((decide ((ae (s.2.2.1- au.1.1))>=(ae (Int.tdiv (ae (s.2.2.1- s.2.1)) (8:Int))))),au.1.2))))))))))))))
 (.cz bV (aq.2.1,(s.2.1,(s.2.2.1,(y.1,x.2.2.2.2)))) fun y_2=>
 (.i11 ((ae (y_2.1.1- s.2.1))<(ae (s.2.2.1- y_2.1.1)))
 (.cz aV (y_2.2.1,(s.2.1,(y_2.1.1,(s.2.2.2.1,x.2.2.2.2)))) fun au=>
 (.ret (.inl (au.2.1,((w1 y_2.1.1),(s.2.2.1,(s.2.2.2.1,((decide ((ae (y_2.1.1- s.2.1))>=(ae (Int.tdiv (ae (s.2.2.1- s.2.1)) (8:Int))))),y_2.1.2))))))))
 (.cz aV (y_2.2.1,((w1 y_2.1.1),(s.2.2.1,(s.2.2.2.1,x.2.2.2.2)))) fun au=>
 (.ret (.inl (au.2.1,(s.2.1,(y_2.1.1,(s.2.2.2.1,((decide ((ae (s.2.2.1- y_2.1.1))>=(ae (Int.tdiv (ae (s.2.2.1- s.2.1)) (8:Int))))),y_2.1.2)))))))))))))
 (.i11 (s.2.1>z0)
 (.bO (wm s.2.1) s.1
 (.bO y.1 s.1
 (.fn dy (x.2.2.2.2,((gI s.1 (wm s.2.1)),(gI s.1 y.1))) fun aq=>
 (.qq (!(decide (aq<z0)))
 (.cz de (s.1,(s.2.1,(s.2.2.1,(y.1,x.2.2.2.2)))) fun y_2=>
 (.ret (.inl (y_2.2.1,(y_2.1,(s.2.2.1,(s.2.2.2.1,(s.2.2.2.2.1,s.2.2.2.2.2))))))))
 (.cz bV (s.1,(s.2.1,(s.2.2.1,(y.1,x.2.2.2.2)))) fun y_2=>
 (.i11 ((ae (y_2.1.1- s.2.1))<(ae (s.2.2.1- y_2.1.1)))
 (.cz aV (y_2.2.1,(s.2.1,(y_2.1.1,(s.2.2.2.1,x.2.2.2.2)))) fun au=>
 (.ret (.inl (au.2.1,((w1 y_2.1.1),(s.2.2.1,(s.2.2.2.1,((decide ((ae (y_2.1.1- s.2.1))>=(ae (Int.tdiv (ae (s.2.2.1- s.2.1)) (8:Int))))),y_2.1.2))))))))
 (.cz aV (y_2.2.1,((w1 y_2.1.1),(s.2.2.1,(s.2.2.2.1,x.2.2.2.2)))) fun au=>
 (.ret (.inl (au.2.1,(s.2.1,(y_2.1.1,(s.2.2.2.1,((decide ((ae (s.2.2.1- y_2.1.1))>=(ae (Int.tdiv (ae (s.2.2.1- s.2.1)) (8:Int))))),y_2.1.2))))))))))))))
 (.cz bV (s.1,(s.2.1,(s.2.2.1,(y.1,x.2.2.2.2)))) fun aq=>
 (.i11 ((ae (aq.1.1- s.2.1))<(ae (s.2.2.1- aq.1.1)))
 (.cz aV (aq.2.1,(s.2.1,(aq.1.1,(s.2.2.2.1,x.2.2.2.2)))) fun y_2=>
 (.ret (.inl (y_2.2.1,((w1 aq.1.1),(s.2.2.1,(s.2.2.2.1,((decide ((ae (aq.1.1- s.2.1))>=(ae (Int.tdiv (ae (s.2.2.1- s.2.1)) (8:Int))))),aq.1.2))))))))
 (.cz aV (aq.2.1,((w1 aq.1.1),(s.2.2.1,(s.2.2.2.1,x.2.2.2.2)))) fun y_2=>
 (.ret (.inl (y_2.2.1,(s.2.1,(aq.1.1,(s.2.2.2.1,((decide ((ae (s.2.2.1- aq.1.1))>=(ae (Int.tdiv (ae (s.2.2.1- s.2.1)) (8:Int))))),aq.1.2))))))))))))
 (.i11 (s.2.1>z0)
 (.bO (wm s.2.1) s.1
 (.bO y.1 s.1
 (.fn dy (x.2.2.2.2,((gI s.1 (wm s.2.1)),(gI s.1 y.1))) fun aq=>
 (.qq (!(decide (aq<z0)))
 (.cz de (s.1,(s.2.1,(s.2.2.1,(y.1,x.2.2.2.2)))) fun y_2=>
 (.ret (.inl (y_2.2.1,(y_2.1,(s.2.2.1,(s.2.2.2.1,(s.2.2.2.2.1,s.2.2.2.2.2))))))))
 (.cz bV (s.1,(s.2.1,(s.2.2.1,(y.1,x.2.2.2.2)))) fun y_2=>
 (.i11 ((ae (y_2.1.1- s.2.1))<(ae (s.2.2.1- y_2.1.1)))
 (.cz aV (y_2.2.1,(s.2.1,(y_2.1.1,(s.2.2.2.1,x.2.2.2.2)))) fun au=>
 (.ret (.inl (au.2.1,((w1 y_2.1.1),(s.2.2.1,(s.2.2.2.1,((decide ((ae (y_2.1.1- s.2.1))>=(ae (Int.tdiv (ae (s.2.2.1- s.2.1)) (8:Int))))),y_2.1.2))))))))
 (.cz aV (y_2.2.1,((w1 y_2.1.1),(s.2.2.1,(s.2.2.2.1,x.2.2.2.2)))) fun au=>
 (.ret (.inl (au.2.1,(s.2.1,(y_2.1.1,(s.2.2.2.1,((decide ((ae (s.2.2.1- y_2.1.1))>=(ae (Int.tdiv (ae (s.2.2.1- s.2.1)) (8:Int))))),y_2.1.2))))))))))))))
 (.cz bV (s.1,(s.2.1,(s.2.2.1,(y.1,x.2.2.2.2)))) fun aq=>
 (.i11 ((ae (aq.1.1- s.2.1))<(ae (s.2.2.1- aq.1.1)))
 (.cz aV (aq.2.1,(s.2.1,(aq.1.1,(s.2.2.2.1,x.2.2.2.2)))) fun y_2=>
 (.ret (.inl (y_2.2.1,((w1 aq.1.1),(s.2.2.1,(s.2.2.2.1,((decide ((ae (aq.1.1- s.2.1))>=(ae (Int.tdiv (ae (s.2.2.1- s.2.1)) (8:Int))))),aq.1.2))))))))
 (.cz aV (aq.2.1,((w1 aq.1.1),(s.2.2.1,(s.2.2.2.1,x.2.2.2.2)))) fun y_2=>
 (.ret (.inl (y_2.2.1,(s.2.1,(aq.1.1,(s.2.2.2.1,((decide ((ae (s.2.2.1- aq.1.1))>=(ae (Int.tdiv (ae (s.2.2.1- s.2.1)) (8:Int))))),aq.1.2))))))))))))
 (.i11 (s.2.1>z0)
 (.bO (wm s.2.1) s.1
 (.bO y.1 s.1
 (.fn dy (x.2.2.2.2,((gI s.1 (wm s.2.1)),(gI s.1 y.1))) fun aq=>
 (.qq (!(decide (aq<z0)))
 (.cz de (s.1,(s.2.1,(s.2.2.1,(y.1,x.2.2.2.2)))) fun y_2=>
 (.ret (.inl (y_2.2.1,(y_2.1,(s.2.2.1,(s.2.2.2.1,(s.2.2.2.2.1,s.2.2.2.2.2))))))))
 (.cz bV (s.1,(s.2.1,(s.2.2.1,(y.1,x.2.2.2.2)))) fun y_2=>
 (.i11 ((ae (y_2.1.1- s.2.1))<(ae (s.2.2.1- y_2.1.1)))
 (.cz aV (y_2.2.1,(s.2.1,(y_2.1.1,(s.2.2.2.1,x.2.2.2.2)))) fun au=>
 (.ret (.inl (au.2.1,((w1 y_2.1.1),(s.2.2.1,(s.2.2.2.1,((decide ((ae (y_2.1.1- s.2.1))>=(ae (Int.tdiv (ae (s.2.2.1- s.2.1)) (8:Int))))),y_2.1.2))))))))
 (.cz aV (y_2.2.1,((w1 y_2.1.1),(s.2.2.1,(s.2.2.2.1,x.2.2.2.2)))) fun au=>
 (.ret (.inl (au.2.1,(s.2.1,(y_2.1.1,(s.2.2.2.1,((decide ((ae (s.2.2.1- y_2.1.1))>=(ae (Int.tdiv (ae (s.2.2.1- s.2.1)) (8:Int))))),y_2.1.2))))))))))))))
 (.cz bV (s.1,(s.2.1,(s.2.2.1,(y.1,x.2.2.2.2)))) fun aq=>
 (.i11 ((ae (aq.1.1- s.2.1))<(ae (s.2.2.1- aq.1.1)))
 (.cz aV (aq.2.1,(s.2.1,(aq.1.1,(s.2.2.2.1,x.2.2.2.2)))) fun y_2=>
 (.ret (.inl (y_2.2.1,((w1 aq.1.1),(s.2.2.1,(s.2.2.2.1,((decide ((ae (aq.1.1- s.2.1))>=(ae (Int.tdiv (ae (s.2.2.1- s.2.1)) (8:Int))))),aq.1.2))))))))
 (.cz aV (aq.2.1,((w1 aq.1.1),(s.2.2.1,(s.2.2.2.1,x.2.2.2.2)))) fun y_2=>
 (.ret (.inl (y_2.2.1,(s.2.1,(aq.1.1,(s.2.2.2.1,((decide ((ae (s.2.2.1- aq.1.1))>=(ae (Int.tdiv (ae (s.2.2.1- s.2.1)) (8:Int))))),aq.1.2)))))))))))))))))
def Xv (x:((List Int)×(Int×(Int×(Int×((List I9)×Int)))))):(Bool×((List Int)×(Bool×(Bool×(Bool×Bool))))):=
 (ai (run (cH x) (x.1,(x.2.1,(x.2.2.1,(x.2.2.2.1,(true,true)))))) fun r=>
 (false,(r,(false,(false,(false,false))))))
def B8 (x:((List Int)×(Int×(Int×(Int×((List I9)×Int)))))):Prop:=
 (Term (cH x) (gq x) (x.1,(x.2.1,(x.2.2.1,(x.2.2.2.1,(true,true)))))/\
 az (run (cH x) (x.1,(x.2.1,(x.2.2.1,(x.2.2.2.1,(true,true)))))) fun r=>
 ((List.length r)=(List.length x.1)))
def Xx (x:((List Int)×(Int×(Int×(Int×((List I9)×Int)))))):Tr (Bool×((List Int)×(Bool×(Bool×(Bool×Bool))))) true:=
 (aI.lp (ku x) (rV x) (x.1,(x.2.1,(x.2.2.1,(x.2.2.2.1,(true,true))))) fun r=>
 (.pn 0 2
 (.og ((decide ((List.length r)=(List.length x.1)))&&true) ((List.length r)=(List.length x.1)) (fun h=>(c7 (decide_eq_true h) rfl))
 (.ret (false,(r,(false,(false,(false,false)))))))))
abbrev RY:Dh:=⟨(.pair (.row yi) (.pair (.val (.one yi)) (.pair (.val (.one yi)) (.pair (.val (.one yi)) (.val ug))))),.none,B8,Xv⟩
abbrev B7 (x:((List Int)×(Int×(Int×(Int×((List I9)×Int)))))) (s:(ku x).S):Prop:= ∀g Q,iF ⟨tt,MX,lQ,[],[],[]⟩ (cI (bW 0 (cj Tryz.f106))) ((ku x).Me.fill g s) ((ku x).kb g Q)=(rV x s).wp ((ku x).post g Q) (Gz (ku x).gt g)
theorem RZ (x:((List Int)×(Int×(Int×(Int×((List I9)×Int)))))) (l:List Int) (a b c:Int):B7 x (l,(a,(b,(c,(false,false))))):=fun g Q=>by kernel_rfl
theorem R1 (x:((List Int)×(Int×(Int×(Int×((List I9)×Int)))))) (l:List Int) (a b c:Int):B7 x (l,(a,(b,(c,(false,true))))):=fun g Q=>by kernel_rfl
theorem R2 (x:((List Int)×(Int×(Int×(Int×((List I9)×Int)))))) (l:List Int) (a b c:Int):B7 x (l,(a,(b,(c,(true,false))))):=fun g Q=>by kernel_rfl
theorem R3 (x:((List Int)×(Int×(Int×(Int×((List I9)×Int)))))) (l:List Int) (a b c:Int):B7 x (l,(a,(b,(c,(true,true))))):=fun g Q=>by kernel_rfl
theorem Xw (x:((List Int)×(Int×(Int×(Int×((List I9)×Int)))))): ∀s,B7 x s
 |(l,(a,(b,(c,(false,false)))))=>RZ x l a b c
 |(l,(a,(b,(c,(false,true)))))=>R1 x l a b c
 |(l,(a,(b,(c,(true,false)))))=>R2 x l a b c
 |(l,(a,(b,(c,(true,true)))))=>R3 x l a b c
theorem UW:ak Tryz.prog 106 (bf RY):=ak.Ly RY Xx (fn:=Tryz.f106) aC CL mixed (by kernel_rfl) (aA.nil _ _) (fun x=>(aB.tr aC (ah.c8 CL (aA.nil _ _)) mixed 0 (ku x) (rV x) aB.nil (by kernel_rfl) fun g s Q=>Xw x s g Q)) (fun x=>(by kernel_rfl)) fun x r0 Q=>(by kernel_rfl)
end
end Go.Proofs.YtlkgabjhkfhgaaaGreat
